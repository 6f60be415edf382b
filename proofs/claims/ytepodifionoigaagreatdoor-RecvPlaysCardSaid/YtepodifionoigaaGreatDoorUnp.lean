import Derived.Test.YtepodifionoigaaGreatDoorMAgg
import Derived.Test.YtepodifionoigaaGreatDoorRdQD
set_option linter.unusedVariables false
set_option linter.unusedSimpArgs false
set_option maxRecDepth 8000
namespace Go.Proofs.YtepodifionoigaaGreatDoor
open Go.Vc
def isPart (xs : List Int) : Prop := 4 ≤ xs.length ∧ sumV [by0 xs 0, by0 xs 1] = by0 xs 2 ∧ by0 xs 3 = 78 ∧ by0 xs 0 % 16 = 0 ∧ 0 < wd xs 0 / 16 ∧ wd xs 0 / 16 ≤ (xs.length : Int) - 4
instance isPartD (xs : List Int) : Decidable (isPart xs) := by unfold isPart; infer_instance
def partL (xs : List Int) : Nat := (wd xs 0 / 16).toNat
def partX (xs : List Int) : List Int := (xs.drop 4).take (partL xs)
def partU (xs : List Int) : Nat := (partL xs + 3) / 4 * 4
def unp (xs : List Int) : Nat → Nat → List (List Int)
  | 0, _ => []
  | k + 1, i => if xs.length < i + 4 then [] else if isPart (xs.drop i) then partX (xs.drop i) :: unp xs k (i + 4 + partU (xs.drop i)) else unp xs k (i + 4)
def unpL (xs : List Int) : List (List Int) := unp xs xs.length 0
theorem unp_end {xs : List Int} {k i : Nat} (h : xs.length < i + 4) : unp xs k i = [] := by
  cases k with
  | zero => rfl
  | succ k => unfold unp; rw [if_pos h]
theorem unp_no {xs : List Int} {k i : Nat} (h : i + 4 ≤ xs.length) (hp : ¬ isPart (xs.drop i)) : unp xs (k + 1) i = unp xs k (i + 4) := by
  rw [unp, if_neg (by omega), if_neg hp]
theorem unp_yes {xs : List Int} {k i : Nat} (h : i + 4 ≤ xs.length) (hp : isPart (xs.drop i)) : unp xs (k + 1) i = partX (xs.drop i) :: unp xs k (i + 4 + partU (xs.drop i)) := by
  rw [unp, if_neg (by omega), if_pos hp]
theorem partX_len {xs : List Int} (h : isPart xs) : (partX xs).length = partL xs ∧ 4 + partL xs ≤ xs.length ∧ wd xs 0 / 16 = (partL xs : Int) ∧ 0 < partL xs := by
  obtain ⟨h1, -, -, -, h5, h6⟩ := h
  have e : partL xs = (wd xs 0 / 16).toNat := rfl
  have e2 : (partX xs).length = min (partL xs) (xs.length - 4) := by unfold partX; rw [List.length_take, List.length_drop]
  refine ⟨by omega, by omega, by omega, by omega⟩
def BtsL (W : Wd) : List Value → List (List Int) → Prop
  | [], [] => True
  | v :: vs, x :: l => Bts W v x ∧ BtsL W vs l
  | _, _ => False
theorem BtsL.le {W W' : Wd} (hl : W.le W') : ∀ {vs : List Value} {l : List (List Int)}, BtsL W vs l → BtsL W' vs l
  | [], [], _ => trivial
  | _ :: _, _ :: _, h => ⟨h.1.le hl, BtsL.le hl h.2⟩
theorem BtsL.len {W : Wd} : ∀ {vs : List Value} {l : List (List Int)}, BtsL W vs l → vs.length = l.length
  | [], [], _ => rfl
  | _ :: _, _ :: _, h => by have := BtsL.len h.2; simp [this]
theorem BtsL.snoc {W : Wd} {v : Value} {x : List Int} (hv : Bts W v x) : ∀ {vs : List Value} {l : List (List Int)}, BtsL W vs l → BtsL W (vs ++ [v]) (l ++ [x])
  | [], [], _ => ⟨hv, trivial⟩
  | _ :: _, _ :: _, h => ⟨h.1, BtsL.snoc hv h.2⟩
theorem BtsL.get {W : Wd} : ∀ {vs : List Value} {l : List (List Int)} {i : Nat} {x : List Int}, BtsL W vs l → l[i]? = some x → ∃ v, vs[i]? = some v ∧ Bts W v x
  | [], [], _, _, _, h => by simp at h
  | v :: _, y :: _, 0, x, h, e => by
    simp at e; subst e
    exact ⟨v, rfl, h.1⟩
  | _ :: _, _ :: _, i + 1, x, h, e => by
    obtain ⟨v, e1, e2⟩ := BtsL.get (i := i) h.2 (by simpa using e)
    exact ⟨v, by simpa using e1, e2⟩
theorem BtsL.one {W : Wd} : ∀ {vs : List Value} {l : List (List Int)}, BtsL W vs l → ∀ u ∈ vs, u.oneCell' = true
  | [], [], _, u, h => by cases h
  | v :: vs, x :: l, h, u, hu => by
    rcases List.mem_cons.1 hu with rfl | hu
    · obtain ⟨a, c, rfl, -, -⟩ := h.1; rfl
    · exact BtsL.one h.2 u hu
theorem take4 {xs : List Int} (h : 4 ≤ xs.length) : ∃ rest, xs = by0 xs 0 :: by0 xs 1 :: by0 xs 2 :: by0 xs 3 :: rest := by
  obtain ⟨x0, r0, e0, l0⟩ := cons_of (n := 3) h
  obtain ⟨x1, r1, e1, l1⟩ := cons_of (n := 2) l0
  obtain ⟨x2, r2, e2, l2⟩ := cons_of (n := 1) l1
  obtain ⟨x3, r3, e3, l3⟩ := cons_of (n := 0) l2
  subst e3 e2 e1 e0
  exact ⟨r3, rfl⟩
section
variable {W W' : Wd} {h h' : Heap} {G : List Grp} {E : Grp} {a : Option Addr} {n c k i : Nat} {xs : List Int} {vs : List Value} {out : List (List Int)}
theorem fitsG_c {x y z : Int} (m : Me W h G) (hb : Bts W (.slice a 3 c) [x, y, z]) (hx : 0 ≤ x ∧ x < 256) (hy : 0 ≤ y ∧ y < 256) :
    Runs Tryz.prog 104 #[.slice a 3 c] h fun v h' => v = .bool (decide (z = sumV [x, y])) ∧ h' = h := by
  have hb0 := hb
  obtain ⟨b, o, rfl, -, hc, hcl⟩ := bts_opn hb (by show 0 < 3; decide)
  have hb2 : Bts W (.slice (slcAddr (some ⟨b, o, none⟩) 0 c 0) 2 c) [x, y] := bts_take (j := 2) (bts_tail hb0 (k := 0) (by omega)) (by omega)
  refine vc_crc_Fits _ _ _ _ _ (dcase_pos (by decide) ⟨by simp only [fits]; omega, ⟨by decide, by decide⟩, z, m.wcell (hcl 2 _ rfl), by simp only [fits]; omega, ⟨by decide, by decide, by omega⟩, ?_⟩)
  refine (crcSum_c m hb2 (fun u hu => ?_) (by show 2 ≤ 65535; decide)).ret ⟨_, rfl, m.wcell (hcl 2 _ rfl), rfl, rfl⟩
  simp only [List.mem_cons, List.not_mem_nil, or_false] at hu
  rcases hu with rfl | rfl
  · exact hx
  · exact hy
def PartV (W : Wd) (G : List Grp) (xs : List Int) (v : Value) (h' : Heap) : Prop := ∃ W', W.le W' ∧ Me W' h' G ∧
  ((isPart xs ∧ ∃ a' c', v = .tuple #[.slice a' (partX xs).length c', .nilIface] ∧ Bts W' (.slice a' (partX xs).length c') (partX xs)) ∨ (¬ isPart xs ∧ ∃ e, v = .tuple #[.slice none 0 0, ptE e]))
theorem partG_c (hE : Snt5 W) (m : Me W h G) (hb : Bts W (.slice a n c) xs) (hx : ∀ x ∈ xs, 0 ≤ x ∧ x < 256) (hl : xs.length ≤ 1000000) :
    Runs Tryz.prog 72 #[.slice a n c] h (PartV W G xs) := by
  obtain ⟨eE, heE⟩ := hE 1 (by decide)
  obtain ⟨eM, heM⟩ := hE 4 (by decide)
  obtain ⟨eS, heS⟩ := hE 3 (by decide)
  obtain ⟨-, hn, hc⟩ := bts_src hb
  by_cases h4 : xs.length < 4
  · exact vc_ampdu_part _ _ _ _ _ (dcase_pos (by omega) ⟨_, m.wcell heE, W, Wd.le.refl W, m, .inr ⟨fun hp => by have := hp.1; omega, eE, rfl⟩⟩)
  replace h4 : 4 ≤ xs.length := by omega
  have hb0 := hb
  obtain ⟨b, o, rfl, -, -, hcl⟩ := bts_opn hb (by omega)
  have r0 := hx _ (by0_mem (xs := xs) (k := 0) (by omega))
  have r1 := hx _ (by0_mem (xs := xs) (k := 1) (by omega))
  obtain ⟨rest, hr⟩ := take4 h4
  have e3 : (xs.drop 0).take 3 = [by0 xs 0, by0 xs 1, by0 xs 2] := by rw [List.drop_zero, hr]; rfl
  have hb3 : Bts W (.slice (slcAddr (some ⟨b, o, none⟩) 0 c 0) 3 c) [by0 xs 0, by0 xs 1, by0 xs 2] := by
    have := bts_take (j := 3) (bts_tail hb0 (k := 0) (by omega)) (by omega)
    rw [e3] at this
    exact this
  refine vc_ampdu_part _ _ _ _ _ (dcase_neg (by omega) ?_)
  refine (glong_c m hb0 (get_by0 (by omega)) (get_by0 (by omega)) r0 r1).ret ⟨_, _, rfl, ⟨by decide, by decide, by omega⟩, ?_⟩
  have ew : by0 xs 0 + by0 xs 1 * 256 = wd xs 0 := rfl
  rw [ew]
  refine (fitsG_c m hb3 r0 r1).ret ⟨_, rfl, bcase_intro (fun q => ?_) fun q => ?_⟩
  · refine ⟨_, m.wcell heM, W, Wd.le.refl W, m, .inr ⟨fun hp => ?_, eM, rfl⟩⟩
    have := hp.2.1
    simp at q
    exact q this.symm
  have q1 : by0 xs 2 = sumV [by0 xs 0, by0 xs 1] := by simpa using q
  refine ⟨⟨by decide, by omega⟩, _, m.wcell (hcl 3 _ (get_by0 (by omega))), bcase_intro (fun q => ?_) fun q => ?_⟩
  · refine ⟨_, m.wcell heS, W, Wd.le.refl W, m, .inr ⟨fun hp => ?_, eS, rfl⟩⟩
    simp at q
    exact q hp.2.2.1
  have q2 : by0 xs 3 = 78 := by simpa using q
  refine bcase_intro (fun q => ?_) fun q => ?_
  · refine ⟨_, m.wcell heS, W, Wd.le.refl W, m, .inr ⟨fun hp => ?_, eS, rfl⟩⟩
    have := hp.2.2.2.1
    simp at q
    exact q (by rw [← ew]; omega)
  have q3 : by0 xs 0 % 16 = 0 := by
    have : wd xs 0 % 16 = 0 := by simpa using q
    rw [← ew] at this; omega
  have hw : 0 ≤ wd xs 0 := by rw [← ew]; omega
  refine dcase_intro (fun q => ?_) fun q => ?_
  · exact ⟨_, m.wcell heS, W, Wd.le.refl W, m, .inr ⟨fun hp => by have := hp.2.2.2.2.1; omega, eS, rfl⟩⟩
  refine ⟨by simp only [fits]; omega, dcase_intro (fun q5 => ?_) fun q5 => ?_⟩
  · exact ⟨_, m.wcell heE, W, Wd.le.refl W, m, .inr ⟨fun hp => by have := hp.2.2.2.2.2; omega, eE, rfl⟩⟩
  have hp : isPart xs := ⟨h4, q1.symm, q2, q3, by omega, by omega⟩
  obtain ⟨p1, p2, p3, p4⟩ := partX_len hp
  refine ⟨by simp only [fits]; omega, ⟨by decide, by omega, by omega⟩, ?_⟩
  rw [p3, show ((4 : Int) + (partL xs : Int)).toNat - 4 = partL xs by omega]
  have hb4 : Bts W (.slice (slcAddr (some ⟨b, o, none⟩) 4 c 4) (partL xs) (c - 4)) (partX xs) := bts_take (bts_tail hb0 (k := 4) (by omega)) (by omega)
  refine (cloneB_c m hb4 (by omega)).mono ?_
  rintro _ g1 ⟨W', a', c', hle, rfl, m', hb'⟩
  exact ⟨_, _, _, rfl, W', hle, m', .inl ⟨hp, a', c', rfl, hb'⟩⟩
theorem upG_c {z : Nat} (hz : z ≤ 1000000) (h : Heap) : Runs Tryz.prog 73 #[.int .i64 (z : Int)] h fun v h' => v = .int .i64 (((z + 3) / 4 * 4 : Nat) : Int) ∧ h' = h :=
  vc_ampdu_up _ _ _ ⟨by simp only [fits]; omega, by simp only [fits]; omega, ⟨by omega, by decide, by simp only [fits]; omega⟩, by simp only [fits]; omega, by rw [show ((z : Int) + 4 - 1) / 4 * 4 = (((z + 3) / 4 * 4 : Nat) : Int) by omega], rfl⟩
def UnpI (W : Wd) (G : List Grp) (xs : List Int) (i : Nat) (o' : Option Addr) (ol oc : Nat) (h' : Heap) : Prop := ∃ k W' E vs out, W.le W' ∧ ol = vs.length ∧ Ow o' vs.length oc 1 vs E ∧ Me W' h' (E :: G) ∧ BtsL W' vs out ∧ xs.length ≤ i + 4 * k ∧ vs.length * 4 ≤ i ∧ out ++ unp xs k i = unpL xs
def UnpV (W : Wd) (G : List Grp) (xs : List Int) (v : Value) (h' : Heap) : Prop := ∃ W' a c E vs, W.le W' ∧ v = .slice a vs.length c ∧ Ow a vs.length c 1 vs E ∧ Me W' h' (E :: G) ∧ BtsL W' vs (unpL xs)
theorem unp_start (m : Me W h G) : UnpI W G xs 0 none 0 0 h := ⟨xs.length, W, [], [], [], Wd.le.refl W, rfl, Ow.nil, m.nilI, trivial, by omega, by simp, rfl⟩
theorem UnpI.fin {o' : Option Addr} {ol oc : Nat} (s : UnpI W G xs i o' ol oc h) (hi : xs.length < i + 4) : UnpV W G xs (.slice o' ol oc) h := by
  obtain ⟨k, W', E, vs, out, hle, rfl, o, m, hb, -, -, e⟩ := s
  rw [unp_end hi, List.append_nil] at e
  subst e
  exact ⟨W', _, _, E, vs, hle, rfl, o, m, hb⟩
theorem UnpI.skip {o' : Option Addr} {ol oc : Nat} (s : UnpI W G xs i o' ol oc h) (hi : i + 4 ≤ xs.length) (hp : ¬ isPart (xs.drop i)) : UnpI W G xs (i + 4) o' ol oc h := by
  obtain ⟨k, W', E, vs, out, hle, rfl, o, m, hb, hk, hv, e⟩ := s
  cases k with
  | zero => omega
  | succ k =>
    rw [unp_no hi hp] at e
    exact ⟨k, W', E, vs, out, hle, rfl, o, m, hb, by omega, by omega, e⟩
theorem unpackG_c (hE : Snt5 W) (m : Me W h G) (hb : Bts W (.slice a n c) xs) (hx : ∀ x ∈ xs, 0 ≤ x ∧ x < 256) (hl : xs.length ≤ 1000000) :
    Runs Tryz.prog 36 #[.slice a n c] h (UnpV W G xs) := by
  refine vc_ampdu_Unpack _ _ _ _ _ ⟨fun b' l' c' o' ol oc h' => ∃ i, UnpI W G xs i o' ol oc h' ∧ Bts W (.slice b' l' c') (xs.drop i), fun _ l' _ _ _ _ _ => l', ⟨0, unp_start m, hb⟩, fun _ => ?_⟩
  clear m
  rintro b' l' c' o' ol oc h1 ⟨i, s, hbi⟩
  obtain ⟨hsi, hni, hci⟩ := bts_src hbi
  rw [List.length_drop] at hni
  refine dcase_intro (fun q => ?_) fun q => s.fin (by omega)
  have hi : i + 4 ≤ xs.length := by omega
  have s0 := s
  obtain ⟨k, W1, E, vs, out, hle, rfl, o, m, hbl, hk, hv, e⟩ := s
  have hxi : ∀ x ∈ xs.drop i, 0 ≤ x ∧ x < 256 := fun x hx' => hx x (List.mem_of_mem_drop hx')
  refine (partG_c (hE.cl fun _ _ _ => wcell_le hle) m (hbi.le hle) hxi (by rw [List.length_drop]; omega)).mono ?_
  rintro _ h2 ⟨W2, hle2, m2, ⟨hp, s1, s1c, rfl, hb1⟩ | ⟨hp, e1, rfl⟩⟩
  · refine ⟨_, _, _, _, rfl, true, rfl, bcase_false rfl ?_⟩
    obtain ⟨p1, p2, p3, p4⟩ := partX_len hp
    rw [List.length_drop] at p2
    have ho1 : (Value.slice s1 (partX (xs.drop i)).length s1c).oneCell' = true := rfl
    refine o.app1 m2 0 rfl rfl (by simp [Value.oneCell']) (by omega) (by decide) fun a3 c3 E3 h3 m3 o3 => ?_
    rw [p1]
    refine (upG_c (by omega) _).ret ⟨_, rfl, by simp only [fits]; omega, ?_⟩
    have eU : (partL (xs.drop i) + 3) / 4 * 4 = partU (xs.drop i) := rfl
    rw [eU]
    obtain ⟨j, hj⟩ : ∃ j : Nat, min ((l' : Nat) : Int) ((4 : Int) + (partU (xs.drop i) : Int)) = (j : Int) ∧ j = min l' (4 + partU (xs.drop i)) := ⟨min l' (4 + partU (xs.drop i)), by omega, rfl⟩
    rw [hj.1]
    have hjl : j ≤ l' := by omega
    have hbj := bts_tail hbi (k := j) hjl
    rw [List.drop_drop] at hbj
    have ed : xs.drop (i + j) = xs.drop (i + 4 + partU (xs.drop i)) := by
      by_cases hq : 4 + partU (xs.drop i) ≤ l'
      · rw [show i + j = i + 4 + partU (xs.drop i) by omega]
      · rw [List.drop_of_length_le (by omega), List.drop_of_length_le (by omega)]
    rw [ed] at hbj
    refine ⟨⟨by omega, by omega⟩, ?_⟩
    rw [Int.toNat_natCast, Nat.mul_one]
    have hk0 : ∃ k', k = k' + 1 := ⟨k - 1, by omega⟩
    obtain ⟨k', rfl⟩ := hk0
    rw [unp_yes hi hp] at e
    have m3' : Me W2 h3 (E3 :: G) := m3
    have o3' : Ow a3 (vs ++ [Value.slice s1 (partX (xs.drop i)).length s1c]).length c3 1 (vs ++ [Value.slice s1 (partX (xs.drop i)).length s1c]) E3 := by
      rw [List.length_append]; exact o3
    refine ⟨⟨i + 4 + partU (xs.drop i), ⟨k', W2, E3, _, _, hle.trans hle2, by rw [List.length_append]; rfl, o3', m3', (hbl.le hle2).snoc hb1, by omega, by rw [List.length_append]; simp; omega, ?_⟩, hbj⟩, by dsimp only; omega⟩
    rw [List.append_assoc]; exact e
  · refine ⟨_, _, _, _, rfl, false, rfl, bcase_true rfl ?_⟩
    have hb4 := bts_tail hbi (k := 4) (by omega)
    rw [List.drop_drop] at hb4
    have s2 : UnpI W G xs i o' vs.length oc h2 := ⟨k, W2, E, vs, out, hle.trans hle2, rfl, o, m2, hbl.le hle2, hk, hv, e⟩
    exact ⟨⟨by decide, by omega⟩, ⟨i + 4, s2.skip hi hp, hb4⟩, by dsimp only; omega⟩
set_option maxHeartbeats 800000 in
theorem runpackG_c (m : Me W h G) (hb : Bts W (.slice a n c) xs) (hx : ∀ x ∈ xs, 0 ≤ x ∧ x < 256) (hl : xs.length ≤ 1000000) :
    Runs Tryz.prog 55 #[.slice a n c] h (UnpV W G xs) := by
  obtain ⟨hs, hn, hc⟩ := bts_src hb
  refine vc_muezzinref1_Unpack _ _ _ _ _ ⟨fun o' ol oc z h' => ∃ i : Nat, z = i ∧ UnpI W G xs i o' ol oc h' ∧ i % 4 = 0 ∧ i ≤ xs.length + 8, fun _ _ _ z _ => ((xs.length : Int) + 12 - z).toNat, ⟨0, rfl, unp_start m, rfl, by omega⟩, fun _ => ?_⟩
  clear m
  rintro o' ol oc _ h1 ⟨i, rfl, s, hi4, hiL⟩
  refine ⟨by simp only [fits]; omega, dcase_intro (fun q => ?_) fun q => s.fin (by omega)⟩
  have hi : i + 4 ≤ xs.length := by omega
  obtain ⟨k, W1, E, vs, out, hle, rfl, o, m, hbl, hk, hv, e⟩ := s
  have s0 : UnpI W G xs i o' vs.length oc h1 := ⟨k, W1, E, vs, out, hle, rfl, o, m, hbl, hk, hv, e⟩
  have hxi : ∀ x ∈ xs.drop i, 0 ≤ x ∧ x < 256 := fun x hx' => hx x (List.mem_of_mem_drop hx')
  have hli : (xs.drop i).length = xs.length - i := List.length_drop
  obtain ⟨ys, hys⟩ : ∃ ys, ys = xs.drop i := ⟨_, rfl⟩
  rw [← hys] at hxi hli
  obtain ⟨rest, hr⟩ := take4 (xs := ys) (by omega)
  have r0 := hxi _ (by0_mem (xs := ys) (k := 0) (by omega))
  have r1 := hxi _ (by0_mem (xs := ys) (k := 1) (by omega))
  have hbi := bts_tail (hb.le hle) (k := i) (by omega)
  rw [← hys] at hbi
  have hbd := bts_take (j := 4) hbi (by omega)
  rw [show ys.take 4 = [by0 ys 0, by0 ys 1, by0 ys 2, by0 ys 3] by rw [hr]; rfl] at hbd
  have hb2 := bts_take (j := 2) (bts_tail hbd (k := 0) (by omega)) (by omega)
  replace hb2 : Bts W1 (.slice (slcAddr (slcAddr a i c i) 0 (c - i) 0) 2 (c - i)) [by0 ys 0, by0 ys 1] := hb2
  have ew : by0 ys 0 + by0 ys 1 * 256 = wd ys 0 := rfl
  have hw : 0 ≤ wd ys 0 ∧ wd ys 0 < 65536 := by rw [← ew]; omega
  have no : ∀ h3, h3 = h1 → ¬ isPart ys → fits .i64 ((i : Int) + 4) ∧ (∃ j : Nat, (i : Int) + 4 = j ∧ UnpI W G xs j o' vs.length oc h3 ∧ j % 4 = 0 ∧ j ≤ xs.length + 8) ∧ ((xs.length : Int) + 12 - ((i : Int) + 4)).toNat < ((xs.length : Int) + 12 - (i : Int)).toNat := by
    rintro _ rfl hp
    rw [hys] at hp
    exact ⟨by simp only [fits]; omega, ⟨i + 4, by omega, s0.skip hi hp, by omega, by omega⟩, by omega⟩
  obtain ⟨b1, o1, hA, -, -, hcl⟩ := bts_opn hbd (by show 0 < 4; decide)
  refine ⟨by simp only [fits]; omega, ⟨by omega, by omega, by omega⟩, ?_⟩
  rw [show ((i : Int) + 4).toNat - ((i : Int)).toNat = 4 by omega, Int.toNat_natCast, Nat.mul_one, hA]
  rw [hA] at hbd hb2
  refine (num_c m hbd rfl rfl r0 r1).ret ⟨_, rfl, ?_⟩
  rw [ew]
  refine ⟨⟨hw.1, by decide, by simp only [fits]; omega⟩, ⟨by decide, by decide, by omega⟩, ⟨by decide, by decide⟩, _, m.wcell (hcl 2 _ rfl), ?_⟩
  refine (refSum_c m hb2 (fun u hu => ?_) (by show 2 ≤ 65535; decide)).ret ⟨_, rfl, m.wcell (hcl 2 _ rfl), ?_⟩
  · simp only [List.mem_cons, List.not_mem_nil, or_false] at hu
    rcases hu with rfl | rfl
    · exact r0
    · exact r1
  refine dcase_intro (fun q1 => ?_) fun q1 => no _ rfl fun hp => q1 hp.2.1
  refine ⟨⟨by decide, by decide⟩, _, m.wcell (hcl 3 _ rfl), dcase_intro (fun q2 => ?_) fun q2 => no _ rfl fun hp => q2 hp.2.2.1⟩
  refine ⟨⟨by decide, by decide⟩, _, m.wcell (by simpa using hcl 0 _ rfl), dcase_intro (fun q3 => ?_) fun q3 => no _ rfl fun hp => q3 (by rw [and15_b r0]; exact hp.2.2.2.1)⟩
  rw [and15_b r0] at q3
  refine dcase_intro (fun q4 => ?_) fun q4 => no _ rfl fun hp => q4 hp.2.2.2.2.1
  refine ⟨by simp only [fits]; omega, by simp only [fits]; omega, dcase_intro (fun q5 => ?_) fun q5 => no _ rfl fun hp => q5 (by have := hp.2.2.2.2.2; omega)⟩
  have hp : isPart ys := ⟨by omega, q1, q2, q3, q4, by omega⟩
  obtain ⟨p1, p2, p3, p4⟩ := partX_len hp
  refine ⟨by simp only [fits]; omega, by simp only [fits]; omega, by simp only [fits]; omega, ⟨by omega, by omega, by omega⟩, ?_⟩
  rw [p3, show ((i : Int) + 4).toNat = i + 4 by omega, show ((i : Int) + 4 + (partL ys : Int)).toNat - (i + 4) = partL ys by omega, Nat.mul_one]
  have hbp : Bts W1 (.slice (slcAddr a (i + 4) c (i + 4)) (partL ys) (c - (i + 4))) (partX ys) := by
    have := bts_take (j := partL ys) (bts_tail (hb.le hle) (k := i + 4) (by omega)) (by omega)
    rw [← List.drop_drop, ← hys] at this
    exact this
  refine (rbytes_c m hbp (by omega)).mono ?_
  rintro _ h4 ⟨W2, s1, s1c, hle2, rfl, m2, hb1⟩
  refine ⟨_, _, _, rfl, ?_⟩
  refine o.app1 m2 0 rfl rfl (by simp [Value.oneCell']) (by omega) (by decide) fun a3 c3 E3 h3 m3 o3 => ?_
  have eN : ((i : Int) + 4 + (partL ys : Int) + 3) / 4 * 4 = ((i + 4 + partU ys : Nat) : Int) := by unfold partU; omega
  refine ⟨by simp only [fits]; omega, by simp only [fits]; omega, by simp only [fits]; omega, ⟨by omega, by decide, by simp only [fits]; omega⟩, by simp only [fits]; omega, ?_⟩
  rw [eN]
  obtain ⟨k', rfl⟩ : ∃ k', k = k' + 1 := ⟨k - 1, by omega⟩
  rw [hys] at hp
  rw [unp_yes hi hp, ← hys] at e
  have o3' : Ow a3 (vs ++ [Value.slice s1 (partX ys).length s1c]).length c3 1 (vs ++ [Value.slice s1 (partX ys).length s1c]) E3 := by
    rw [List.length_append]; exact o3
  have hU : partU ys ≤ partL ys + 3 ∧ partU ys % 4 = 0 := by unfold partU; omega
  refine ⟨⟨i + 4 + partU ys, rfl, ⟨k', W2, E3, _, _, hle.trans hle2, by rw [List.length_append]; rfl, o3', m3, (hbl.le hle2).snoc hb1, by omega, by rw [List.length_append]; simp; omega, ?_⟩, by omega, by omega⟩, by dsimp only; omega⟩
  rw [List.append_assoc]; exact e
end
end Go.Proofs.YtepodifionoigaaGreatDoor
