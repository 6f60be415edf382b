import Derived.Test.YtepodifionoigaaGreatDoorS8b
import Derived.Test.YtepodifionoigaaGreatDoorGenAll2
import Derived.Test.YtepodifionoigaaGreatDoorR24f
set_option linter.unusedVariables false
set_option linter.unusedSimpArgs false
set_option maxRecDepth 8000
namespace Go.Proofs.YtepodifionoigaaGreatDoor
open Go.Vc
theorem fmc_row12 {f : Fm} {v : Value} (hf : FmOk f) : ((fmc f v).drop 12).take 6 = ints .u8 f.fr := by
  unfold fmc
  rw [← List.append_assoc, List.drop_left' (by rw [List.length_append, ints_len, ints_len, hf.l1, hf.l2])]
  exact List.take_left' (by rw [ints_len]; exact hf.l3)
theorem and7g (t : Int) : bits .and .i64 t 7 = t % 8 := by
  have e : bits .and .i64 t 7 = IntKind.i64.wrap ((BitVec.ofInt 64 t &&& BitVec.ofInt 64 7).toNat : Int) := rfl
  have e2 : (BitVec.ofInt 64 t &&& BitVec.ofInt 64 7).toNat = (t % 18446744073709551616).toNat % 8 := by
    rw [BitVec.toNat_and, BitVec.toNat_ofInt, show (BitVec.ofInt 64 7).toNat = 2 ^ 3 - 1 from rfl, Nat.and_two_pow_sub_one_eq_mod]
    rfl
  rw [e, e2, wrap_fits (show fits .i64 _ by simp only [fits]; omega)]
  omega
theorem and63g (t : Int) : bits .and .i64 t 63 = t % 64 := by
  have e : bits .and .i64 t 63 = IntKind.i64.wrap ((BitVec.ofInt 64 t &&& BitVec.ofInt 64 63).toNat : Int) := rfl
  have e2 : (BitVec.ofInt 64 t &&& BitVec.ofInt 64 63).toNat = (t % 18446744073709551616).toNat % 64 := by
    rw [BitVec.toNat_and, BitVec.toNat_ofInt, show (BitVec.ofInt 64 63).toNat = 2 ^ 6 - 1 from rfl, Nat.and_two_pow_sub_one_eq_mod]
    rfl
  rw [e, e2, wrap_fits (show fits .i64 _ by simp only [fits]; omega)]
  omega
theorem and255g (t : Int) : bits .and .i64 t 255 = t % 256 := by
  have e : bits .and .i64 t 255 = IntKind.i64.wrap ((BitVec.ofInt 64 t &&& BitVec.ofInt 64 255).toNat : Int) := rfl
  have e2 : (BitVec.ofInt 64 t &&& BitVec.ofInt 64 255).toNat = (t % 18446744073709551616).toNat % 256 := by
    rw [BitVec.toNat_and, BitVec.toNat_ofInt, show (BitVec.ofInt 64 255).toNat = 2 ^ 8 - 1 from rfl, Nat.and_two_pow_sub_one_eq_mod]
    rfl
  rw [e, e2, wrap_fits (show fits .i64 _ by simp only [fits]; omega)]
  omega
theorem qosB_by {f : Fm} (hf : FmOk f) (h1 : ∀ x ∈ f.to, 0 ≤ x ∧ x < 256) (h2 : ∀ x ∈ f.bss, 0 ≤ x ∧ x < 256) (h3 : ∀ x ∈ f.fr, 0 ≤ x ∧ x < 256) (h4 : ∀ x ∈ f.body, 0 ≤ x ∧ x < 256) : ∀ x ∈ qosB f, 0 ≤ x ∧ x < 256 := by
  have t0 := hf.t0
  have t7 := hf.t7
  have hm : 0 ≤ (2 : Int) + (if f.rt = true then 8 else 0) + (if f.mo = true then 32 else 0) ∧ (2 : Int) + (if f.rt = true then 8 else 0) + (if f.mo = true then 32 else 0) < 256 := by split <;> split <;> decide
  have he : 0 ≤ f.tid + (if f.eo = true then (16 : Int) else 0) ∧ f.tid + (if f.eo = true then (16 : Int) else 0) < 256 := by split <;> omega
  intro x hx
  simp only [qosB, List.mem_append, List.mem_cons, List.not_mem_nil, or_false] at hx
  rcases hx with (rfl | rfl | rfl | rfl) | hx | hx | hx | (rfl | rfl | rfl | rfl) | hx
  all_goals first | exact h1 _ hx | exact h2 _ hx | exact h3 _ hx | exact h4 _ hx | exact hm | exact he | omega
section
variable {W W' : Wd} {h h' : Heap} {G : List Grp} {E U V : Grp} {a a2 b : Option Addr} {n c c2 k i j : Nat} {vs ws : List Value} {xs bs body : List Int} {l : List (List Int)} {f : Fm} {up : List Fm} {v w : Value}
theorem sameQ_c (m : Me W h G) (hf : FmOk f) (hv : Bts W v f.body) (hw : Bts W w f.body) :
    Runs Tryz.prog 52 #[.agg (fmc f v).toArray, .agg (fmc f w).toArray] h fun r h' => r = .bool true ∧ Me W h' G := by
  have hb := hf.bl
  obtain ⟨va, vc, rfl, hv1, hv2⟩ := hv
  obtain ⟨wa, wc, rfl, hw1, hw2⟩ := hw
  refine vc_muezzinref_SameQoS1 _ _ _ _ ?_
  intro b1 h1 e1 e2 b2 h2 e3 e4
  replace m := (m.push e2 e1).push e4 e3
  have hL : ∀ u : Value, 6 ≤ (fmc f u).length ∧ 12 ≤ (fmc f u).length ∧ 18 ≤ (fmc f u).length := fun u => by rw [fmc_len hf]; decide
  refine ⟨_, m.row 1 rfl (fmc_row0 hf) (hL _).1, _, m.row 0 rfl (fmc_row0 hf) (hL _).1, ?_⟩
  refine (sameAddr_c m hf.l1 hf.l1).mono ?_
  rintro _ h3 ⟨rfl, m⟩
  refine ⟨_, rfl, bcase_true (decide_eq_true rfl) ⟨_, m.row 1 rfl (fmc_row6 hf) (hL _).2.1, _, m.row 0 rfl (fmc_row6 hf) (hL _).2.1, ?_⟩⟩
  refine (sameAddr_c m hf.l2 hf.l2).mono ?_
  rintro _ h4 ⟨rfl, m⟩
  refine ⟨_, rfl, bcase_true (decide_eq_true rfl) ⟨_, m.row 1 rfl (fmc_row12 hf) (hL _).2.2, _, m.row 0 rfl (fmc_row12 hf) (hL _).2.2, ?_⟩⟩
  refine (sameAddr_c m hf.l3 hf.l3).mono ?_
  rintro _ h5 ⟨rfl, m⟩
  refine ⟨_, rfl, bcase_true (decide_eq_true rfl) ?_⟩
  refine ⟨f.tid, m.cell 1 rfl (fmc_cell hf 0 rfl), f.tid, m.cell 0 rfl (fmc_cell hf 0 rfl), dcase_pos rfl ?_⟩
  refine ⟨f.sq, m.cell 1 rfl (fmc_cell hf 1 rfl), f.sq, m.cell 0 rfl (fmc_cell hf 1 rfl), dcase_pos rfl ?_⟩
  refine ⟨f.rt, m.cell 1 rfl (fmc_cell hf 2 rfl), f.rt, m.cell 0 rfl (fmc_cell hf 2 rfl), bcase_true (beq_self_eq_true _) ?_⟩
  refine ⟨f.mo, m.cell 1 rfl (fmc_cell hf 3 rfl), f.mo, m.cell 0 rfl (fmc_cell hf 3 rfl), bcase_true (beq_self_eq_true _) ?_⟩
  refine ⟨f.eo, m.cell 1 rfl (fmc_cell hf 4 rfl), f.eo, m.cell 0 rfl (fmc_cell hf 4 rfl), bcase_true (beq_self_eq_true _) ?_⟩
  refine ⟨_, _, _, m.cell 1 rfl (fmc_cell hf 5 rfl), _, _, _, m.cell 0 rfl (fmc_cell hf 5 rfl), ?_⟩
  refine (sameBytes_c (m.wsrc hv2) rfl (m.wsrc hw2) rfl (by omega)).ret ⟨_, rfl, ?_, m.drop1.drop1⟩
  rw [decide_eq_true rfl]
theorem sameFs_c (m : Me W h G) (oa : Ow a up.length c 24 vs U) (hi : G[i]? = some U) (hsa : Sq (FmV W) up vs) (ob : Ow a2 up.length c2 24 ws V) (hj : G[j]? = some V) (hsb : Sq (FmV W) up ws) (hk : ∀ f ∈ up, FmOk f) (hl : up.length ≤ 1000000) :
    Runs Tryz.prog 27 #[.slice a up.length c, .slice a2 up.length c2] h fun r h' => r = .bool true ∧ Me W h' G := by
  refine vc_muezzinref_SameFrames _ _ _ _ _ _ _ _ (bcase_false (by simp) ?_)
  refine ⟨fun z h' => ∃ k : Nat, z = k ∧ k ≤ up.length ∧ Me W h' G, fun z _ => ((up.length : Int) - z).toNat, ⟨0, rfl, by omega, m⟩, fun _ => ?_⟩
  clear m
  rintro _ h1 ⟨k, rfl, hk2, m⟩
  refine dcase_intro (fun q => ?_) fun q => ⟨rfl, m⟩
  have hkl : k < up.length := by omega
  have hget := List.getElem?_eq_getElem hkl
  obtain ⟨b1, o1, cs1, rfl, e1, ⟨v1, rfl, hv1⟩, -⟩ := sq_row oa m hi hsa hk hget
  obtain ⟨b2, o2, cs2, rfl, e2, ⟨v2, rfl, hv2⟩, -⟩ := sq_row ob m hj hsb hk hget
  refine ⟨⟨by omega, by omega⟩, _, by simpa using e1, ⟨by omega, by omega⟩, _, by simpa using e2, ?_⟩
  refine (sameQ_c m (hk _ (List.getElem_mem hkl)) hv1 hv2).mono ?_
  rintro _ h2 ⟨rfl, m2⟩
  exact ⟨_, rfl, bcase_false rfl ⟨by simp only [fits]; omega, ⟨k + 1, by omega, by omega, m2⟩, by dsimp only; omega⟩⟩
theorem rlensG_c (m : Me W h G) (o : Ow a vs.length c 1 vs E) (hi : G[i]? = some E) (hb : BtsL W vs l) (hl : vs.length ≤ 1000) :
    Runs Tryz.prog 44 #[.slice a vs.length c] h fun v h' => ∃ a' c' E', v = .slice a' vs.length c' ∧ Me W h' (E' :: G) ∧ Ow a' vs.length c' 1 (ints .i64 (l.map fun x => (x.length : Int))) E' := by
  have hbl := hb.len
  refine vc_muezzinref1_lens _ _ _ _ _ ⟨fun a' l' c' z h' => ∃ (k : Nat) (E' : Grp), z = k ∧ k ≤ vs.length ∧ l' = k ∧ Me W h' (E' :: G) ∧ Ow a' k c' 1 (ints .i64 ((l.map fun x => (x.length : Int)).take k)) E', fun _ _ _ z _ => ((vs.length : Int) - z).toNat, ⟨0, [], rfl, by omega, rfl, m.nilI, by simpa [ints] using Ow.nil⟩, fun _ => ?_⟩
  clear m
  rintro a' l' c' _ h1 ⟨k, E', rfl, hk, rfl, m, o'⟩
  refine dcase_intro (fun q => ?_) fun q => ?_
  · have hkl : l' < vs.length := by omega
    have hkl2 : l' < l.length := by omega
    obtain ⟨v1, hv1, hbv⟩ := hb.get (List.getElem?_eq_getElem hkl2)
    obtain ⟨sa, sc, rfl, -, -⟩ := hbv
    obtain ⟨b2, o2, rfl, hc2⟩ := src_cell (o.src1 m (i + 1) hi) hv1
    refine ⟨⟨by omega, by omega⟩, _, _, _, by simpa using hc2, ?_⟩
    refine o'.app1 m 0 rfl rfl (by simp [Value.oneCell']) (by omega) (by decide) fun a3 c3 E3 h3 m3 o3 => ?_
    refine ⟨by simp only [fits]; omega, ⟨l' + 1, E3, by omega, by omega, rfl, m3, ?_⟩, by dsimp only; omega⟩
    rw [List.take_add_one, List.getElem?_map, List.getElem?_eq_getElem hkl2, ints_app]
    exact o3
  · obtain rfl : l' = vs.length := by omega
    rw [List.take_of_length_le (by rw [List.length_map]; omega)] at o'
    exact ⟨a', c', E', rfl, m, o'⟩
theorem raggG_c {ks : List Int} (m : Me W h (E :: G)) (o : Ow a ks.length c 1 (ints .i64 ks) E) (hk : ∀ k ∈ ks, 0 ≤ k ∧ k ≤ 100000) (hl : ks.length ≤ 1000) :
    Runs Tryz.prog 43 #[.slice a ks.length c] h fun v h' => (∃ n : Int, v = .int .i64 n) ∧ h' = h := by
  refine vc_muezzinref1_AggLen _ _ _ _ _ ⟨fun z y h' => ∃ k : Nat, y = k ∧ k ≤ ks.length ∧ h' = h ∧ 0 ≤ z ∧ z ≤ k * 100010, fun _ y _ => ((ks.length : Int) - y).toNat, ⟨0, rfl, by omega, rfl, by decide, by decide⟩, fun _ => ?_⟩
  rintro z _ _ ⟨k, rfl, hk2, rfl, hz0, hz1⟩
  refine dcase_intro (fun q => ?_) fun q => ⟨⟨_, rfl⟩, rfl⟩
  have hkl : k < ks.length := by omega
  have hkb := hk _ (List.getElem_mem hkl)
  have hz2 : z ≤ 100010000 := by omega
  obtain ⟨b1, o1, rfl, hc1⟩ := src_cell (o.src1 m 0 rfl) (ints_get (k := .i64) (List.getElem?_eq_getElem hkl))
  refine ⟨by simp only [fits]; omega, ⟨by omega, by decide, by simp only [fits]; omega⟩, by simp only [fits]; omega, by simp only [fits]; omega, ⟨by omega, by omega⟩, _, by simpa using hc1, ?_⟩
  rw [Int.max_eq_left hkb.1]
  exact ⟨by simp only [fits]; omega, by simp only [fits]; omega, ⟨k + 1, by omega, by omega, rfl, by omega, by omega⟩, by dsimp only; omega⟩
def PackV (W : Wd) (G : List Grp) (v : Value) (h' : Heap) : Prop := ∃ W' a' c' e bs, W.le W' ∧ v = .tuple #[.slice a' bs.length c', .int .i64 e] ∧ Bts W' (.slice a' bs.length c') bs ∧ (∀ x ∈ bs, 0 ≤ x ∧ x < 256) ∧ bs.length ≤ 160000 ∧ Me W' h' G
theorem pack_none (m : Me W h G) {e : Int} : PackV W G (.tuple #[.slice none 0 0, .int .i64 e]) h := ⟨W, none, 0, e, [], Wd.le.refl W, rfl, Bts.nil, fun x hx => (by cases hx), by decide, m⟩
set_option maxHeartbeats 1000000 in
theorem rpackG_c (m : Me W h G) (o : Ow a vs.length c 1 vs E) (hi : G[i]? = some E) (hb : BtsL W vs l) (hl : vs.length ≤ 64) (hx : ∀ p ∈ l, (∀ x ∈ p, 0 ≤ x ∧ x < 256) ∧ p.length ≤ 2000) :
    Runs Tryz.prog 22 #[.slice a vs.length c] h (PackV W G) := by
  have hbl := hb.len
  have gt : ∀ (k : Nat), k < vs.length → ∃ sa p sc, vs[k]? = some (.slice sa p.length sc) ∧ l[k]? = some p ∧ p ∈ l ∧ Bts W (.slice sa p.length sc) p := fun k hk => by
    have hk2 : k < l.length := by omega
    obtain ⟨v1, hv1, hbv⟩ := hb.get (List.getElem?_eq_getElem hk2)
    have hbv2 := hbv
    obtain ⟨sa, sc, rfl, -, -⟩ := hbv
    exact ⟨sa, l[k], sc, hv1, List.getElem?_eq_getElem hk2, List.getElem_mem hk2, hbv2⟩
  refine vc_muezzinref1_Pack _ _ _ _ _ (dcase_intro (fun q => pack_none m) fun q => ?_)
  refine ⟨fun z h' => h' = h ∧ ∃ k : Nat, z = k ∧ k ≤ vs.length, fun z _ => ((vs.length : Int) - z).toNat, ⟨rfl, 0, rfl, by omega⟩, fun _ => ?_⟩
  rintro _ _ ⟨rfl, k, rfl, hk⟩
  refine dcase_intro (fun q1 => ?_) fun q1 => ?_
  · obtain ⟨sa, p, sc, hv1, -, hpl, hbv⟩ := gt k (by omega)
    obtain ⟨b2, o2, rfl, hc2⟩ := src_cell (o.src1 m i hi) hv1
    refine ⟨⟨by omega, by omega⟩, _, _, _, by simpa using hc2, dcase_intro (fun q2 => pack_none m) fun q2 => ⟨⟨by omega, by omega⟩, _, _, _, by simpa using hc2, dcase_intro (fun q3 => pack_none m) fun q3 => ?_⟩⟩
    exact ⟨by simp only [fits]; omega, ⟨rfl, k + 1, by omega, by omega⟩, by dsimp only; omega⟩
  refine dcase_intro (fun q2 => pack_none m) fun q2 => ?_
  refine (rlensG_c m o hi hb (by omega)).mono ?_
  rintro _ g1 ⟨a1, c1, E1, rfl, m1, o1⟩
  have hml : (l.map fun x => (x.length : Int)).length = vs.length := by rw [List.length_map]; omega
  rw [← hml] at o1
  refine ⟨_, _, _, rfl, ?_⟩
  rw [← hml]
  refine (raggG_c m1 o1 (fun k hk => by obtain ⟨p, hp, rfl⟩ := List.mem_map.1 hk; have := (hx p hp).2; omega) (by omega)).mono ?_
  rintro _ _ ⟨⟨n, rfl⟩, rfl⟩
  rw [hml]
  replace m1 := m1.drop1
  refine ⟨_, rfl, dcase_intro (fun q3 => pack_none m1) fun q3 => ?_⟩
  refine ⟨fun a' l' c' z h' => ∃ (k : Nat) (W1 : Wd) (E' : Grp) (bs : List Int), z = k ∧ k ≤ vs.length ∧ l' = bs.length ∧ W.le W1 ∧ Me W1 h' (E' :: G) ∧ Ow a' bs.length c' 1 (ints .u8 bs) E' ∧ (∀ x ∈ bs, 0 ≤ x ∧ x < 256) ∧ bs.length ≤ k * 2400, fun _ _ _ z _ => ((vs.length : Int) - z).toNat,
    ⟨0, W, [], [], rfl, by omega, rfl, Wd.le.refl W, m1.nilI, Ow.nil, fun x hx => (by cases hx), by decide⟩, fun _ => ?_⟩
  clear m1 o1 m
  rintro a' l' c' _ g2 ⟨k, W1, E', bs, rfl, hk, rfl, hle, m, o', hby, hbn⟩
  refine dcase_intro (fun q4 => ?_) fun q4 => ?_
  · obtain ⟨sa, p, sc, hv1, -, hpl, hbv⟩ := gt k (by omega)
    obtain ⟨hpx, hpn⟩ := hx p hpl
    refine ⟨fun a' l' c' h' => ∃ (E' : Grp) (bs' : List Int), l' = bs'.length ∧ Me W1 h' (E' :: G) ∧ Ow a' bs'.length c' 1 (ints .u8 bs') E' ∧ (∀ x ∈ bs', 0 ≤ x ∧ x < 256) ∧ bs.length ≤ bs'.length ∧ bs'.length ≤ (bs.length + 3) / 4 * 4, fun _ l' _ _ => (bs.length + 3) / 4 * 4 - l',
      ⟨E', bs, rfl, m, o', hby, Nat.le_refl _, by omega⟩, fun _ => ?_⟩
    clear m o'
    rintro a3 _ c3 g3 ⟨E3, bs3, rfl, m, o3, hby3, hn1, hn2⟩
    refine ⟨⟨by omega, by decide⟩, bcase_intro (fun q5 => ?_) fun q5 => ?_⟩
    · have q5 : ¬ ((bs3.length : Int) % 4 = 0) := by simpa using q5
      refine o3.app1 m 0 rfl rfl (by simp [Value.oneCell']) (by omega) (by decide) fun a4 c4 E4 g4 m4 o4 => ?_
      refine ⟨⟨E4, bs3 ++ [0], by rw [List.length_append]; rfl, m4, by rw [List.length_append, ints_app]; exact o4, fun x hx => ?_, by rw [List.length_append]; omega, by rw [List.length_append]; show bs3.length + 1 ≤ _; omega⟩, by dsimp only; omega⟩
      rcases List.mem_append.1 hx with hx | hx
      · exact hby3 x hx
      · simp at hx; subst hx; decide
    obtain ⟨b5, o5, rfl, hc5⟩ := src_cell (o.src1 m (i + 1) hi) hv1
    refine ⟨⟨by omega, by omega⟩, _, _, _, by simpa using hc5, by simp only [fits]; omega, ?_⟩
    refine (rtwo_c (bs := []) (a := none) (c := 0) ((p.length : Int) * 16) Ow.nil m.nilI (Nat.zero_le _)).mono ?_
    rintro _ g6 ⟨a6, c6, E6, rfl, m6, o6⟩
    obtain ⟨lo, hlo⟩ : ∃ lo, lo = (p.length : Int) * 16 % 256 := ⟨_, rfl⟩
    obtain ⟨hh, hhi⟩ : ∃ hh, hh = (p.length : Int) * 16 / 256 % 256 := ⟨_, rfl⟩
    rw [← hlo, ← hhi] at o6
    have hlb : 0 ≤ lo ∧ lo < 256 := by omega
    have hhb : 0 ≤ hh ∧ hh < 256 := by omega
    have o6' : Ow a6 [lo, hh].length c6 1 (ints .u8 [lo, hh]) E6 := o6
    obtain ⟨W4, hle4, m7, hb7⟩ := ow_give o6' m6
    have hb7' := hb7
    obtain ⟨b8, p8, rfl, -, -, hx8⟩ := bts_opn hb7 (by show 0 < 2; decide)
    refine ⟨_, _, _, rfl, ⟨by decide, by show (0 : Int) < ((2 : Nat) : Int); decide⟩, lo, m7.wcell (by simpa using hx8 0 _ rfl), ⟨by decide, by show (1 : Int) < ((2 : Nat) : Int); decide⟩, hh, m7.wcell (hx8 1 _ rfl), ?_⟩
    refine (refSum_c m7 hb7' (fun u hu => ?_) (by show 2 ≤ 65535; decide)).ret ⟨_, rfl, m7.wcell (hx8 1 _ rfl), m7.wcell (by simpa using hx8 0 _ rfl), ?_⟩
    · simp only [List.mem_cons, List.not_mem_nil, or_false] at hu
      rcases hu with rfl | rfl
      · exact hlb
      · exact hhb
    have hsb := sumV_bd [lo, hh]
    intro b9 g9 f1 f2
    have m9 := m7.push f2 f1
    refine ⟨ints .u8 [lo, hh, sumV [lo, hh], 78], ⟨m9.row 0 rfl rfl (Nat.le_of_ble_eq_true rfl), ints_one⟩, ?_⟩
    refine o3.app m9 1 rfl rfl (by omega) (by decide) fun a10 c10 E10 g10 m10 o10 => ?_
    simp only [List.set_cons_zero, List.set_cons_succ] at m10
    replace m10 := m10.drop1
    obtain ⟨b11, o11, e11, hc11⟩ := src_cell (o.src1 m10 (i + 1) hi) hv1
    cases e11
    refine ⟨⟨by omega, by omega⟩, _, _, _, by simpa using hc11, ints .u8 p, ⟨?_, ints_one⟩, ?_⟩
    · rw [Nat.mul_one]
      obtain ⟨hs1, -, -⟩ := bts_src hbv
      exact m10.wsrc (wsrc_le (hle.trans hle4) hs1)
    refine o10.app m10 0 rfl (by rw [ints_len, Nat.mul_one]) (by omega) (by decide) fun a12 c12 E12 g12 m12 o12 => ?_
    simp only [List.set_cons_zero] at m12
    have eL : (bs3 ++ ([lo, hh, sumV [lo, hh], 78] ++ p)).length = bs3.length + 4 + p.length := by simp; omega
    refine ⟨by simp only [fits]; omega, ⟨k + 1, W4, E12, bs3 ++ ([lo, hh, sumV [lo, hh], 78] ++ p), by omega, by omega, eL.symm, hle.trans hle4, m12, ?_, fun x hx => ?_, by rw [eL]; omega⟩, by dsimp only; omega⟩
    · rw [eL, ints_app, ints_app, ← List.append_assoc]; exact o12
    · rcases List.mem_append.1 hx with hx | hx
      · exact hby3 x hx
      · rcases List.mem_append.1 hx with hx | hx
        · simp only [List.mem_cons, List.not_mem_nil, or_false] at hx
          rcases hx with rfl | rfl | rfl | rfl
          · exact hlb
          · exact hhb
          · exact hsb
          · decide
        · exact hpx x hx
  · obtain ⟨W3, hle3, m3, hb3⟩ := ow_give o' m
    exact ⟨W3, a', c', 0, bs, hle.trans hle3, rfl, hb3, hby, by omega, m3⟩
end
end Go.Proofs.YtepodifionoigaaGreatDoor
set_option linter.unusedVariables false
set_option linter.unusedSimpArgs false
set_option maxRecDepth 8000
namespace Go.Proofs.YtepodifionoigaaGreatDoor
open Go.Vc
def outT (tid : Int) : Bool := decide (tid < 0) || decide (8 ≤ tid)
def gotX (x : Ses) (n : Int) : Bool := if x.on then decide (distZ x.fr n < 64) && decide (bits .and .u64 (x.bits / pow2 (distZ x.fr n)) 1 = 1) else x.came && decide (x.last = n)
def gotV (xs : List Ses) (tid n : Int) : Bool := if outT tid || (decide (n < 0) || decide (4096 ≤ n)) then false else gotX (xs.getD tid.toNat ses0) n
def waitsV (xs : List Ses) (tid : Int) : Int := if outT tid then 0 else ((xs.getD tid.toNat ses0).kept.length : Int)
def sesV (xs : List Ses) (tid : Int) : Value := if outT tid || !(xs.getD tid.toNat ses0).on then .tuple #[.int .i64 0, .int .i64 0, .bool false] else .tuple #[.int .i64 (xs.getD tid.toNat ses0).start, .int .i64 (xs.getD tid.toNat ses0).size, .bool true]
section
variable {W W' : Wd} {h h' : Heap} {b t j n c bu i b1 : Nat} {a : Option Addr} {T Tu T1 : TypeId} {size : Int} {css : List (List Value)} {cs us vs : List Value} {G G' : List Grp} {v : Value} {x y : Ses} {xs : List Ses} {f : Fm} {E A : Grp} {up : List Fm}
theorem R8.st (r : R8 W h b T size xs G) (hx : xs[t]? = some x) : ∃ css a c G', St W h b T size css t (parC x (.slice a x.kept.length c)) G' := by
  obtain ⟨ps, h1, h2, h3, m⟩ := r
  have htl := (List.getElem?_eq_some_iff.1 hx).1
  obtain ⟨p, hp⟩ : ∃ p, ps[t]? = some p := ⟨_, List.getElem?_eq_getElem (by omega)⟩
  obtain ⟨k1, k2⟩ := kcss_len h1 h2
  have hcs : (List.zipWith kpC xs ps)[t]? = some (kpC x p) := by rw [List.getElem?_zipWith, hx, hp]
  have e : stC size (List.zipWith kpC xs ps) t (parC x (.slice p.a x.kept.length p.c)) = ck (preC size) (List.zipWith kpC xs ps) [] := by
    show ck (preC size) ((List.zipWith kpC xs ps).set t (kpC x p)) [] = _
    rw [set_same hcs]
  rw [← e] at m
  exact ⟨List.zipWith kpC xs ps, p.a, p.c, kpE ps :: G, ⟨m, k2, k1, by omega, rfl⟩⟩
theorem R8.len (r : R8 W h b T size xs G) : xs.length = 8 := by obtain ⟨ps, h1, -⟩ := r; exact h1
theorem rgot_c (r : R8 W h b T size xs G) (hg : ∀ x ∈ xs, SesG x) (tid n : Int) :
    Runs Tryz.prog 17 #[.pointer (some ⟨b, 0, none⟩), .int .i64 tid, .int .i64 n] h fun v h' => v = .bool (gotV xs tid n) ∧ h' = h := by
  refine vc_muezzinref24_Station_Got _ _ _ _ _ ?_
  unfold gotV outT
  refine dcase_intro (fun q1 => ⟨by simp [q1], rfl⟩) fun q1 => ?_
  refine dcase_intro (fun q2 => ⟨by simp [q2], rfl⟩) fun q2 => ?_
  refine dcase_intro (fun q3 => ⟨by simp [q3], rfl⟩) fun q3 => ?_
  refine dcase_intro (fun q4 => ⟨by simp [q4], rfl⟩) fun q4 => ?_
  obtain ⟨t, rfl⟩ : ∃ t : Nat, tid = (t : Int) := ⟨tid.toNat, by omega⟩
  have hxt := getD_some (t := t) r.len (by omega)
  rw [Int.toNat_natCast]
  obtain ⟨x, hxx⟩ : ∃ x, x = xs.getD t ses0 := ⟨_, rfl⟩
  rw [← hxx] at hxt ⊢
  obtain ⟨css, a, c, G', s⟩ := r.st hxt
  have hgx := hg x (List.mem_of_getElem? hxt)
  rw [show (decide ((t : Int) < 0) || decide (8 ≤ (t : Int)) || (decide (n < 0) || decide (4096 ≤ n))) = false by simp [q1, q2, q3, q4]]
  rw [if_neg (by decide)]
  unfold gotX
  refine ⟨⟨by omega, by omega⟩, x.on, s.get0 rfl, bcase_intro (fun q => ?_) fun q => ?_⟩
  · have q : x.on = false := by simpa using q
    rw [q, if_neg (by decide)]
    refine ⟨x.came, s.get 6 rfl, bcase_intro (fun q5 => ?_) fun q5 => ?_⟩
    · exact ⟨x.last, s.get 7 rfl, by rw [q5]; rfl, rfl⟩
    · exact ⟨by rw [q5]; rfl, rfl⟩
  · have q : x.on = true := by simpa using q
    rw [q, if_pos rfl]
    have hd := distZ_bd x.fr n
    refine ⟨x.fr, s.get 4 rfl, (rdist_c _ _ _).ret ⟨_, rfl, dcase_intro (fun q5 => ?_) fun q5 => ?_⟩⟩
    · refine ⟨x.bits, s.get 5 rfl, by simp only [fits]; omega, ⟨hd.1, by simp only [kbits]; omega⟩, ?_, rfl⟩
      rw [decide_eq_true q5]; rfl
    · exact ⟨by rw [decide_eq_false q5]; rfl, rfl⟩
theorem rwaits_c (r : R8 W h b T size xs G) (tid : Int) :
    Runs Tryz.prog 15 #[.pointer (some ⟨b, 0, none⟩), .int .i64 tid] h fun v h' => v = .int .i64 (waitsV xs tid) ∧ h' = h := by
  refine vc_muezzinref24_Station_Waits _ _ _ _ ?_
  unfold waitsV outT
  refine dcase_intro (fun q1 => ⟨by simp [q1], rfl⟩) fun q1 => ?_
  refine dcase_intro (fun q2 => ⟨by simp [q2], rfl⟩) fun q2 => ?_
  obtain ⟨t, rfl⟩ : ∃ t : Nat, tid = (t : Int) := ⟨tid.toNat, by omega⟩
  have hxt := getD_some (t := t) r.len (by omega)
  rw [Int.toNat_natCast]
  obtain ⟨css, a, c, G', s⟩ := r.st hxt
  rw [show (decide ((t : Int) < 0) || decide (8 ≤ (t : Int))) = false by simp [q1, q2], if_neg (by decide)]
  exact ⟨⟨by omega, by omega⟩, _, _, _, s.get 3 rfl, rfl, rfl⟩
theorem rsession_c (r : R8 W h b T size xs G) (tid : Int) :
    Runs Tryz.prog 14 #[.pointer (some ⟨b, 0, none⟩), .int .i64 tid] h fun v h' => v = sesV xs tid ∧ h' = h := by
  refine vc_muezzinref24_Station_Session _ _ _ _ ?_
  unfold sesV outT
  refine dcase_intro (fun q1 => ⟨by simp [q1], rfl⟩) fun q1 => ?_
  refine dcase_intro (fun q2 => ⟨by simp [q2], rfl⟩) fun q2 => ?_
  obtain ⟨t, rfl⟩ : ∃ t : Nat, tid = (t : Int) := ⟨tid.toNat, by omega⟩
  have hxt := getD_some (t := t) r.len (by omega)
  rw [Int.toNat_natCast]
  obtain ⟨x, hxx⟩ : ∃ x, x = xs.getD t ses0 := ⟨_, rfl⟩
  rw [← hxx] at hxt ⊢
  obtain ⟨css, a, c, G', s⟩ := r.st hxt
  rw [show (decide ((t : Int) < 0) || decide (8 ≤ (t : Int))) = false by simp [q1, q2], Bool.false_or]
  refine ⟨⟨by omega, by omega⟩, x.on, s.get0 rfl, bcase_intro (fun q => ?_) fun q => ?_⟩
  · rw [if_pos q]; exact ⟨rfl, rfl⟩
  · rw [if_neg (by rw [q]; decide)]
    exact ⟨⟨by omega, by omega⟩, x.start, s.get 1 rfl, ⟨by omega, by omega⟩, x.size, s.get 2 rfl, rfl, rfl⟩
theorem rnew24_c (m : Me W h G) (size : Int) :
    Runs Tryz.prog 9 #[.agg (ints .u8 meL).toArray, .agg (ints .u8 bssL).toArray, .int .i64 size] h fun v h' => ∃ b T, v = .pointer (some ⟨b, 0, none⟩) ∧ R8 W h' b T size (List.replicate 8 ses0) G := by
  refine vc_muezzinref24_New _ _ _ _ _ ?_
  intro b1 h1 e1 e2 b2 h2 e3 e4
  have m2 := (m.push e2 e1).push e4 e3
  refine ⟨_, m2.row 1 rfl rfl (Nat.le_of_ble_eq_true rfl), _, m2.row 0 rfl rfl (Nat.le_of_ble_eq_true rfl), rfl, rfl, ?_⟩
  intro b3 h3 e5 e6
  have m3 := m2.push e6 e5
  obtain ⟨T3, hT3⟩ : ∃ T3 : TypeId, T3 = 65 := ⟨_, rfl⟩
  replace m3 : Me W h3 ([(b3, ck (preC size) (List.zipWith kpC (List.replicate 8 ses0) (List.replicate 8 ⟨none, 0, [], []⟩)) [], 65)] :: [(b2, ints .u8 bssL, _)] :: [(b1, ints .u8 meL, _)] :: G) := m3
  rw [← hT3] at m3
  refine ⟨b3, T3, rfl, List.replicate 8 ⟨none, 0, [], []⟩, rfl, rfl, fun i x p e1 e2 => ?_, me_swap ((m3.free 1 rfl).free 1 rfl).nilI⟩
  · rw [List.getElem?_replicate] at e1 e2
    split at e1
    · rename_i hi
      rw [if_pos hi] at e2
      cases e1; cases e2
      exact ⟨Ow.nil, rfl⟩
    · cases e1
end
end Go.Proofs.YtepodifionoigaaGreatDoor
