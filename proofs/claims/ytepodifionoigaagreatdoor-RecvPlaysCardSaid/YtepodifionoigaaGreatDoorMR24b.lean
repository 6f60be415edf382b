import Derived.Test.YtepodifionoigaaGreatDoorMSq
import Derived.Test.YtepodifionoigaaGreatDoorGenAll1
set_option linter.unusedVariables false
set_option linter.unusedSimpArgs false
set_option maxRecDepth 8000
namespace Go.Proofs.YtepodifionoigaaGreatDoor
open Go.Vc
def kixN : List Fm → Int → Option Nat
  | [], _ => none
  | f :: r, n => if f.sq = n then some 0 else (kixN r n).map (· + 1)
def kix (l : List Fm) (n : Int) : Int := match kixN l n with | some i => (i : Int) | none => -1
theorem kix_none : ∀ {l : List Fm} {n : Int}, kixN l n = none → kfind l n = none ∧ kdel l n = l ∧ ∀ f ∈ l, f.sq ≠ n
  | [], _, _ => ⟨rfl, rfl, fun f hf => (by cases hf)⟩
  | f :: r, n, e => by
    simp only [kixN] at e
    split at e
    · cases e
    · rename_i q
      obtain ⟨h1, h2, h3⟩ := kix_none (l := r) (n := n) (by cases h : kixN r n with | none => rfl | some i => rw [h] at e; cases e)
      have q' : (f.sq == n) = false := beq_false_of_ne q
      refine ⟨by simp only [kfind, List.find?_cons, q']; exact h1, by simp only [kdel, List.eraseP_cons, q', Bool.false_eq_true, if_false]; exact congrArg (List.cons f) h2, fun g hg => ?_⟩
      rcases List.mem_cons.1 hg with rfl | hg
      · exact q
      · exact h3 g hg
theorem kix_some : ∀ {l : List Fm} {n : Int} {i : Nat}, kixN l n = some i → ∃ f, l[i]? = some f ∧ f.sq = n ∧ kfind l n = some f ∧ kdel l n = l.take i ++ l.drop (i + 1) ∧ ∀ g ∈ l.take i, g.sq ≠ n
  | [], _, _, e => by cases e
  | f :: r, n, i, e => by
    simp only [kixN] at e
    split at e
    · rename_i q
      cases e
      have q' : (f.sq == n) = true := by simp [q]
      exact ⟨f, rfl, q, by simp only [kfind, List.find?_cons, q'], by simp only [kdel, List.eraseP_cons, q', if_true]; rfl, fun g hg => (by cases hg)⟩
    · rename_i q
      have q' : (f.sq == n) = false := beq_false_of_ne q
      cases h : kixN r n with
      | none => rw [h] at e; cases e
      | some j =>
        rw [h] at e
        cases e
        obtain ⟨g, h1, h2, h3, h4, h5⟩ := kix_some h
        refine ⟨g, by simpa using h1, h2, by simp only [kfind, List.find?_cons, q']; exact h3, by simp only [kdel, List.eraseP_cons, q', Bool.false_eq_true, if_false, List.take_succ_cons, List.drop_succ_cons, List.cons_append]; exact congrArg (List.cons f) h4, fun k hk => ?_⟩
        rw [List.take_succ_cons] at hk
        rcases List.mem_cons.1 hk with rfl | hk
        · exact q
        · exact h5 k hk
def parC (x : Ses) (kv : Value) : List Value := [.bool x.on, .int .i64 x.start, .int .i64 x.size, kv, .int .i64 x.fr, .int .u64 x.bits, .bool x.came, .int .i64 x.last]
def Rp (W : Wd) (h : Heap) (b : Nat) (T : TypeId) (size : Int) (css : List (List Value)) (t : Nat) (x : Ses) (up : List Fm) (bu : Nat) (Tu : TypeId) (G : List Grp) : Prop :=
  ∃ a c E vs ua uc U us, St W h b T size css t (parC x (.slice a x.kept.length c)) (E :: U :: [(bu, [.slice ua up.length uc], Tu)] :: G) ∧ Ow a x.kept.length c 24 vs E ∧ Sq (FmV W) x.kept vs ∧ Ow ua up.length uc 24 us U ∧ Sq (FmV W) up us
section
variable {W W' : Wd} {h h' : Heap} {b t j n c bu i : Nat} {a : Option Addr} {T Tu : TypeId} {size : Int} {css : List (List Value)} {cs us vs : List Value} {G G' : List Grp} {v : Value} {x : Ses} {f : Fm} {E : Grp} {up : List Fm}
theorem sq_row {out : List Fm} (o : Ow a out.length c 24 vs E) (m : Me W h G) (hi : G[i]? = some E) (hs : Sq (FmV W) out vs) (hk : ∀ f ∈ out, FmOk f) (hj : out[j]? = some f) :
    ∃ b o' cs, a = some ⟨b, o', none⟩ ∧ row h b (o' + j * 24) 24 = some cs ∧ FmV W f cs ∧ cs.length = 24 := by
  obtain ⟨cs, ⟨⟨v, rfl, hv⟩, hf⟩, hc, hl⟩ := (sq_ok hs hk).get (n := 24) (fun x cs hx => by obtain ⟨⟨v, rfl, -⟩, hx⟩ := hx; exact fmc_len hx) hj
  obtain ⟨b, o', e1, e2⟩ := src_part (o.src m i hi) hl (by decide) hc
  exact ⟨b, o', _, e1, e2, ⟨v, rfl, hv⟩, fmc_len hf⟩
theorem rfind_c {kl : Nat} (s : St W h b T size css t (parC x (.slice a x.kept.length c)) G) (hi : G[i]? = some E) (o : Ow a x.kept.length c 24 vs E) (hs : Sq (FmV W) x.kept vs) (hok : ∀ f ∈ x.kept, FmOk f) (hl : x.kept.length ≤ 100000) (n : Int) :
    Runs Tryz.prog 89 #[.pointer (some ⟨b, 13 + t * 8, none⟩), .int .i64 n] h fun v h' => v = .int .i64 (kix x.kept n) ∧ h' = h := by
  refine vc_muezzinref24_part_find _ _ _ _ ?_
  refine ⟨fun i h' => h' = h ∧ ∃ k : Nat, i = k ∧ k ≤ x.kept.length ∧ ∀ g ∈ x.kept.take k, g.sq ≠ n, fun i _ => ((x.kept.length : Int) - i).toNat, ⟨rfl, 0, rfl, by omega, fun g hg => (by cases hg)⟩, fun _ => ?_⟩
  rintro _ h1 ⟨rfl, k, rfl, hk, hno⟩
  refine ⟨_, _, _, s.get 3 rfl, dcase_intro (fun q => ?_) fun q => ?_⟩
  · have hkl : k < x.kept.length := by omega
    have hj := List.getElem?_eq_getElem hkl
    obtain ⟨b3, o3, rfl, c1, -⟩ := sq_cell o s.m (i := i + 1) (by simpa using hi) hs hok hj
    refine ⟨_, _, _, s.get 3 rfl, ⟨by omega, by omega⟩, _, c1, dcase_intro (fun q1 => ⟨?_, rfl⟩) fun q1 => ⟨by simp only [fits]; omega, ⟨rfl, k + 1, by omega, by omega, fun g hg => ?_⟩, by dsimp only; omega⟩⟩
    · have : kixN x.kept n = some k := by
        cases hq : kixN x.kept n with
        | none => exact absurd q1 ((kix_none hq).2.2 _ (List.getElem_mem hkl))
        | some j =>
          obtain ⟨g, g1, g2, -, -, g5⟩ := kix_some hq
          rcases Nat.lt_trichotomy j k with hlt | he | hgt
          · exact absurd g2 (hno g (List.mem_iff_getElem?.2 ⟨j, by rw [List.getElem?_take_of_lt hlt]; exact g1⟩))
          · rw [he]
          · exact absurd q1 (g5 _ (List.mem_iff_getElem?.2 ⟨k, by rw [List.getElem?_take_of_lt hgt]; exact hj⟩))
      simp [kix, this]
    · rw [List.take_add_one, hj] at hg
      rcases List.mem_append.1 hg with hg | hg
      · exact hno g hg
      · simp at hg; subst hg; exact q1
  · obtain rfl : k = x.kept.length := by omega
    rw [List.take_length] at hno
    have : kixN x.kept n = none := by
      cases hq : kixN x.kept n with
      | none => rfl
      | some j =>
        obtain ⟨g, g1, g2, -⟩ := kix_some hq
        exact absurd g2 (hno g (List.mem_of_getElem? g1))
    exact ⟨by simp [kix, this], rfl⟩
theorem slc0 {a : Option Addr} {c : Nat} : slcAddr a 0 c 0 = a := by
  unfold slcAddr
  split
  · rfl
  · cases a with
    | none => rfl
    | some a => simp [Option.map, Addr.add]
theorem kdel_lt {l : List Fm} {n : Int} {i : Nat} (h : kixN l n = some i) : i < l.length := by
  obtain ⟨f, h1, -⟩ := kix_some h
  exact (List.getElem?_eq_some_iff.1 h1).1
set_option maxHeartbeats 800000 in
theorem rout1_c (r : Rp W h b T size css t x up bu Tu G) (hok : ∀ f ∈ x.kept, FmOk f) (hl : x.kept.length ≤ 100000) (hu : up.length ≤ 1000000) (n : Int) :
    Runs Tryz.prog 84 #[.pointer (some ⟨b, 13 + t * 8, none⟩), .pointer (some ⟨bu, 0, none⟩), .int .i64 n] h fun v h' => v = .bool (kfind x.kept n).isSome ∧ Rp W h' b T size css t { x with kept := kdel x.kept n } (up ++ (kfind x.kept n).toList) bu Tu G := by
  have r0 := r
  obtain ⟨a, c, E, vs, ua, uc, U, us, s, o, hs, ou, hus⟩ := r
  refine vc_muezzinref24_part_out _ _ _ _ _ ?_
  refine (rfind_c (kl := 0) s (i := 0) rfl o hs hok hl n).ret ⟨_, rfl, ?_⟩
  unfold kix
  cases hq : kixN x.kept n with
  | none =>
    obtain ⟨h1, h2, -⟩ := kix_none hq
    dsimp only
    refine dcase_pos (by decide) ⟨by rw [h1]; rfl, ?_⟩
    rw [h1, h2, show (none : Option Fm).toList = [] from rfl, List.append_nil]
    exact r0
  | some i =>
    obtain ⟨f, h1, h2, h3, h4, -⟩ := kix_some hq
    have hil := kdel_lt hq
    have hfo := hok f (List.mem_of_getElem? h1)
    dsimp only
    refine dcase_neg (by omega) ?_
    refine ⟨_, _, _, s.m.cell 3 rfl rfl, _, _, _, s.get 3 rfl, ⟨by omega, by omega⟩, ?_⟩
    obtain ⟨b3, o3, cs, rfl, e3, hv, hc24⟩ := sq_row o s.m (i := 1) rfl hs hok h1
    refine ⟨cs, e3, hc24, ?_⟩
    rw [List.append_nil]
    refine ou.app1 (sz := 24) s.m 2 rfl hc24 hv.one' (by omega) (by decide) fun a' c' U' g3 m3 ou' => ?_
    simp only [List.set_cons_succ, List.set_cons_zero] at m3
    refine m3.store 3 rfl (Nat.le_of_ble_eq_true rfl) fun h4' m4 => ?_
    simp only [List.set_cons_succ, List.set_cons_zero] at m4
    intro b6 h5 f1 f2
    have m5 := m4.push f2 f1
    have s5 : St W h5 b T size css t (parC x (.slice (some ⟨b3, o3, none⟩) x.kept.length c)) ([(b6, [], 67)] :: E :: U' :: [(bu, [.slice a' (up.length + 1) c'], Tu)] :: G) := s.mem (me_swap m5)
    refine ⟨_, _, _, s5.get 3 rfl, ⟨by omega, by omega, by have := o.le; omega⟩, ?_⟩
    have hsone := hs.all fun f cs hv => hv.one'
    have oh := o.head i (by omega)
    have hlen := o.len
    rw [show (i : Int).toNat = i from rfl, slc0]
    refine ⟨_, ⟨oh.src s5.m 2 rfl, fun u hu => hsone u (List.mem_of_mem_take hu)⟩, ?_⟩
    have o6 : Ow (some ⟨b6, 0, none⟩) 0 0 24 [] [(b6, [], 67)] := Ow.fresh0 rfl
    refine o6.app s5.m 1 rfl (by rw [List.length_take, hlen]; have : i * 24 ≤ x.kept.length * 24 := Nat.mul_le_mul_right _ (by omega); omega) (by omega) (by decide) fun a7 c7 E7 h7 m7 o7 => ?_
    simp only [List.set_cons_succ, List.set_cons_zero, List.nil_append] at m7 o7
    have s7 : St W h7 b T size css t (parC x (.slice (some ⟨b3, o3, none⟩) x.kept.length c)) (E7 :: E :: U' :: [(bu, [.slice a' (up.length + 1) c'], Tu)] :: G) := s.mem m7
    refine ⟨_, _, _, s7.get 3 rfl, by simp only [fits]; omega, ⟨by omega, by omega⟩, ?_⟩
    have ot := o.tail (i + 1) (by omega)
    rw [show ((i : Int) + 1).toNat = i + 1 by omega]
    refine ⟨_, ⟨ot.src s7.m 2 rfl, fun u hu => hsone u (List.mem_of_mem_drop hu)⟩, ?_⟩
    refine o7.app s7.m 1 rfl (by rw [List.length_drop, hlen, ← Nat.sub_mul]) (by omega) (by decide) fun a8 c8 E8 h8 m8 o8 => ?_
    simp only [List.set_cons_succ, List.set_cons_zero] at m8
    have s8 : St W h8 b T size css t (parC x (.slice (some ⟨b3, o3, none⟩) x.kept.length c)) (E8 :: E :: U' :: [(bu, [.slice a' (up.length + 1) c'], Tu)] :: G) := s.mem m8
    refine s8.set 3 rfl fun h9 s9 => ?_
    refine ⟨by rw [h3]; rfl, ?_⟩
    have hkl : (kdel x.kept n).length = 0 + i + (x.kept.length - (i + 1)) := by rw [h4]; simp; omega
    refine ⟨a8, c8, E8, vs.take (i * 24) ++ vs.drop ((i + 1) * 24), a', c', U', us ++ cs, ?_, ?_, ?_, ?_, ?_⟩
    · have e : parC { x with kept := kdel x.kept n } (.slice a8 (kdel x.kept n).length c8) = (parC x (.slice (some ⟨b3, o3, none⟩) x.kept.length c)).set 3 (.slice a8 (0 + i + (x.kept.length - (i + 1))) c8) := by rw [hkl]; rfl
      show St W h9 b T size css t (parC { x with kept := kdel x.kept n } (.slice a8 (kdel x.kept n).length c8)) _
      rw [e, h3]
      rw [show (up ++ (some f).toList).length = up.length + 1 by simp]
      exact s9.mem (s9.m.sub ⟨E, by
        simp only [List.flatten_cons, List.append_assoc]
        refine List.Perm.append_left _ (List.Perm.append_left _ ?_)
        refine List.perm_append_comm.trans ?_
        simp only [List.append_assoc]
        exact List.Perm.refl _⟩)
    · show Ow a8 (kdel x.kept n).length c8 24 _ E8
      rw [hkl]; exact o8
    · show Sq (FmV W) (kdel x.kept n) _
      rw [h4]
      have hn : ∀ (g : Fm) (us : List Value), FmV W g us ∧ FmOk g → us.length = 24 := fun g us hx => by obtain ⟨⟨v, rfl, -⟩, hx⟩ := hx; exact fmc_len hx
      have hs2 := sq_ok hs hok
      exact ((hs2.take hn i).app (hs2.drop hn (i + 1))).mono fun g us hx => hx.1
    · rw [h3, show (up ++ (some f).toList).length = up.length + 1 by simp]
      exact ou'
    · rw [h3]
      exact hus.snoc hv
end
end Go.Proofs.YtepodifionoigaaGreatDoor
set_option linter.unusedVariables false
set_option linter.unusedSimpArgs false
set_option maxRecDepth 8000
namespace Go.Proofs.YtepodifionoigaaGreatDoor
open Go.Vc
theorem upP_nil : ∀ (d : Nat) (s : Int), upP d [] s = ([], [])
  | 0, _ => rfl
  | d + 1, s => by rw [upP]; rfl
theorem kdel_none {l : List Fm} {n : Int} (h : kfind l n = none) : kdel l n = l := by
  cases hq : kixN l n with
  | none => exact (kix_none hq).2.1
  | some i =>
    obtain ⟨f, -, -, h3, -⟩ := kix_some hq
    rw [h] at h3; cases h3
theorem upP_step (d : Nat) (l : List Fm) (s : Int) : upP (d + 1) l s = ((kfind l s).toList ++ (upP d (kdel l s) (addZ s 1)).1, (upP d (kdel l s) (addZ s 1)).2) := by
  cases l with
  | nil => rw [upP_nil]; show _ = ([] ++ (upP d [] (addZ s 1)).1, (upP d [] (addZ s 1)).2); rw [upP_nil]; rfl
  | cons f r =>
    rw [upP, if_neg (by simp)]
    cases hq : kfind (f :: r) s with
    | none => rw [kdel_none hq]; rfl
    | some g => rfl
theorem dist_step {s to : Int} (hs : 0 ≤ s ∧ s ≤ 4095) (ht : 0 ≤ to ∧ to ≤ 4095) (hne : s ≠ to) : (distZ s to).toNat = (distZ (addZ s 1) to).toNat + 1 := by
  unfold distZ addZ; omega
theorem dist_same {s to : Int} (hs : 0 ≤ s ∧ s ≤ 4095) (ht : 0 ≤ to ∧ to ≤ 4095) (he : s = to) : (distZ s to).toNat = 0 := by
  unfold distZ; omega
theorem addZ_b {s n : Int} : 0 ≤ addZ s n ∧ addZ s n ≤ 4095 := by unfold addZ; omega
def KNd (l : List Fm) : Prop := (l.map Fm.sq).Nodup
theorem KNd.del {l : List Fm} {n : Int} (h : KNd l) : KNd (kdel l n) := (List.eraseP_sublist.map Fm.sq).nodup h
theorem KNd.gone {l : List Fm} {n : Int} (h : KNd l) {g : Fm} (hg : g ∈ kdel l n) : g.sq ≠ n := by
  intro e
  cases hq : kixN l n with
  | none => rw [(kix_none hq).2.1] at hg; exact (kix_none hq).2.2 g hg e
  | some i =>
    obtain ⟨f, h1, h2, -, h4, h5⟩ := kix_some hq
    rw [h4] at hg
    rcases List.mem_append.1 hg with hg | hg
    · exact h5 g hg e
    · obtain ⟨j, hj⟩ := List.mem_iff_getElem?.1 hg
      rw [List.getElem?_drop] at hj
      have hp := List.pairwise_iff_getElem.1 h
      obtain ⟨a1, b1⟩ := List.getElem?_eq_some_iff.1 h1
      obtain ⟨a2, b2⟩ := List.getElem?_eq_some_iff.1 hj
      have := hp i (i + 1 + j) (by simpa using a1) (by simpa using a2) (by omega)
      simp only [List.getElem_map, b1, b2] at this
      exact this (h2.trans e.symm)
theorem upP_gone : ∀ (d : Nat) {l : List Fm} {s : Int}, KNd l → 0 ≤ s ∧ s ≤ 4095 → ∀ g ∈ (upP d l s).2, ∀ i : Nat, i < d → g.sq ≠ addZ s i
  | 0, l, s, _, _, g, _, i, hi => by omega
  | d + 1, l, s, h, hs, g, hg, i, hi => by
    rw [upP_step] at hg
    dsimp only at hg
    cases i with
    | zero =>
      have h1 := upP_sub d hg
      have h2 := h.gone h1
      intro e; apply h2; rw [e]; unfold addZ; omega
    | succ i =>
      have := upP_gone d h.del addZ_b g hg i (by omega)
      intro e; apply this; rw [e]; unfold addZ; push_cast; omega
theorem upP_all {l : List Fm} {s : Int} (h : KNd l) (hs : 0 ≤ s ∧ s ≤ 4095) (hk : ∀ f ∈ l, 0 ≤ f.sq ∧ f.sq ≤ 4095) : (upP 4096 l s).2 = [] := by
  apply List.eq_nil_iff_forall_not_mem.2
  intro g hg
  have h1 := hk g (upP_sub 4096 hg)
  have h2 := upP_gone 4096 h hs g hg (distZ s g.sq).toNat (by unfold distZ; omega)
  apply h2
  unfold addZ distZ; omega
section
variable {W W' : Wd} {h h' : Heap} {b t j n c bu i : Nat} {a : Option Addr} {T Tu : TypeId} {size : Int} {css : List (List Value)} {cs us vs : List Value} {G G' : List Grp} {v : Value} {x : Ses} {f : Fm} {E : Grp} {up : List Fm}
theorem Rp.start (r : Rp W h b T size css t x up bu Tu G) : cell h b (13 + t * 8 + 1) = some (.int .i64 x.start) := by
  obtain ⟨a, c, E, vs, ua, uc, U, us, s, -⟩ := r
  exact s.get 1 rfl
theorem Rp.kept (r : Rp W h b T size css t x up bu Tu G) : ∃ a c, cell h b (13 + t * 8 + 3) = some (.slice a x.kept.length c) := by
  obtain ⟨a, c, E, vs, ua, uc, U, us, s, -⟩ := r
  exact ⟨a, c, s.get 3 rfl⟩
theorem Rp.setStart {Q : Heap → Prop} (r : Rp W h b T size css t x up bu Tu G) (n : Int) (q : ∀ h', Rp W h' b T size css t { x with start := n } up bu Tu G → Q h') : wr h b (13 + t * 8 + 1) ∧ ∀ h1, h1 = setc h b (13 + t * 8 + 1) (.int .i64 n) → Q h1 := by
  obtain ⟨a, c, E, vs, ua, uc, U, us, s, k⟩ := r
  exact s.set 1 rfl fun h1 s1 => q h1 ⟨a, c, E, vs, ua, uc, U, us, s1, k⟩
def UpI (W : Wd) (b : Nat) (T : TypeId) (size : Int) (css : List (List Value)) (t : Nat) (x : Ses) (bu : Nat) (Tu : TypeId) (G : List Grp) (R : List Fm) (h' : Heap) (l : List Fm) (z : Int) (up : List Fm) : Prop :=
  Rp W h' b T size css t (x.wk z l) up bu Tu G ∧ (∀ f ∈ l, FmOk f) ∧ l.length ≤ 100000 ∧ up.length + l.length ≤ 600000 ∧ (0 ≤ z ∧ z ≤ 4095)
theorem kfl {l : List Fm} {n : Int} : (kfind l n).toList.length + (kdel l n).length = l.length := by
  cases hq : kfind l n with
  | none => rw [kdel_none hq]; simp
  | some g => have := kdel_len hq; simp; omega
theorem rto_c (r : Rp W h b T size css t x up bu Tu G) (hok : ∀ f ∈ x.kept, FmOk f) (hl : x.kept.length ≤ 100000) (hu : up.length ≤ 500000) (hst : 0 ≤ x.start ∧ x.start ≤ 4095) (to : Int) (hto : 0 ≤ to ∧ to ≤ 4095) :
    Runs Tryz.prog 66 #[.pointer (some ⟨b, 13 + t * 8, none⟩), .pointer (some ⟨bu, 0, none⟩), .int .i64 to] h fun v h' => Rp W h' b T size css t (x.up to).2 (up ++ (x.up to).1) bu Tu G := by
  refine vc_muezzinref24_part_to _ _ _ _ _ ?_
  obtain ⟨P, hP⟩ : ∃ P : Heap → Nat → Prop, P = fun h' n => ∃ l z up', UpI W b T size css t x bu Tu G [] h' l z up' ∧ n = (distZ z to).toNat ∧ up' ++ (upP n l z).1 = up ++ (x.up to).1 ∧ (upP n l z).2 = (x.up to).2.kept := ⟨_, rfl⟩
  have h0 : P h (distZ x.start to).toNat := by rw [hP]; exact ⟨x.kept, x.start, up, ⟨r, hok, hl, by omega, hst⟩, rfl, rfl, rfl⟩
  refine ⟨fun h' => ∃ n, P h' n, fun h' => lea (P h'), ⟨_, h0⟩, fun _ => ?_⟩
  rintro h1 hI
  obtain ⟨n, hPn, hle⟩ := lea_spec hI
  have hPn0 := hPn
  rw [hP] at hPn0
  obtain ⟨l, z, up', ⟨r1, hok1, hl1, hu1, hz⟩, hn, e1, e2⟩ := hPn0
  refine ⟨z, r1.start, bcase_intro (fun q => ?_) fun q => ?_⟩
  · have hne : z ≠ to := by simpa using q
    refine ⟨z, r1.start, (rout1_c r1 hok1 hl1 (by omega) z).mono ?_⟩
    rintro _ h2 ⟨rfl, r2⟩
    refine ⟨_, rfl, z, r2.start, (radd_c _ _ _).ret ⟨_, rfl, ?_⟩⟩
    refine r2.setStart _ fun h3 r3 => ?_
    have hd := dist_step hz hto hne
    refine lea_next hle (k := (distZ (addZ z 1) to).toNat) ?_ (by omega)
    rw [hP]
    rw [hn, hd, upP_step] at e1 e2
    have hk := kfl (l := l) (n := z)
    refine ⟨kdel l z, addZ z 1, up' ++ (kfind l z).toList, ⟨r3, fun f hf => hok1 f (kdel_sub hf), by omega, by rw [List.length_append]; omega, addZ_b⟩, rfl, ?_, e2⟩
    rw [← e1, List.append_assoc]
  · have he : z = to := by simpa using q
    rw [hn, dist_same hz hto he, upP] at e1 e2
    rw [List.append_nil] at e1
    rw [← e1]
    have : (x.up to).2 = x.wk z l := by
      show ({ x with start := to, kept := (x.up to).2.kept } : Ses) = { x with start := z, kept := l }
      rw [← e2, he]
    rw [this]; exact r1
theorem rrun_c (r : Rp W h b T size css t x up bu Tu G) (hok : ∀ f ∈ x.kept, FmOk f) (hl : x.kept.length ≤ 100000) (hu : up.length ≤ 500000) (hst : 0 ≤ x.start ∧ x.start ≤ 4095) :
    Runs Tryz.prog 67 #[.pointer (some ⟨b, 13 + t * 8, none⟩), .pointer (some ⟨bu, 0, none⟩)] h fun v h' => Rp W h' b T size css t x.run.2 (up ++ x.run.1) bu Tu G := by
  refine vc_muezzinref24_part_run _ _ _ _ ?_
  obtain ⟨P, hP⟩ : ∃ P : Heap → Nat → Prop, P = fun h' n => ∃ l z up', UpI W b T size css t x bu Tu G [] h' l z up' ∧ n = l.length ∧ up' ++ (runP (n + 1) l z).1 = up ++ x.run.1 ∧ x.wk (runP (n + 1) l z).2.2 (runP (n + 1) l z).2.1 = x.run.2 := ⟨_, rfl⟩
  have h0 : P h x.kept.length := by rw [hP]; exact ⟨x.kept, x.start, up, ⟨r, hok, hl, by omega, hst⟩, rfl, rfl, rfl⟩
  refine ⟨fun h' => ∃ n, P h' n, fun h' => lea (P h'), ⟨_, h0⟩, fun _ => ?_⟩
  rintro h1 hI
  obtain ⟨n, hPn, hle⟩ := lea_spec hI
  have hPn0 := hPn
  rw [hP] at hPn0
  obtain ⟨l, z, up', ⟨r1, hok1, hl1, hu1, hz⟩, hn, e1, e2⟩ := hPn0
  refine ⟨z, r1.start, (rout1_c r1 hok1 hl1 (by omega) z).mono ?_⟩
  rintro _ h2 ⟨rfl, r2⟩
  refine ⟨_, rfl, ?_⟩
  cases hf : kfind l z with
  | none =>
    refine bcase_false (by show (kfind l z).isSome = false; rw [hf]; rfl) ?_
    rw [runP_none hf] at e1 e2
    rw [List.append_nil] at e1
    rw [← e1, ← e2]
    have : ({ x.wk z l with kept := kdel (x.wk z l).kept z } : Ses) = x.wk z l := by
      show ({ x with start := z, kept := kdel l z } : Ses) = { x with start := z, kept := l }
      rw [kdel_none hf]
    rw [this, show kfind (x.wk z l).kept z = none from hf, show (none : Option Fm).toList = [] from rfl, List.append_nil] at r2
    exact r2
  | some f =>
    refine bcase_true (by show (kfind l z).isSome = true; rw [hf]; rfl) ?_
    refine ⟨z, r2.start, (radd_c _ _ _).ret ⟨_, rfl, ?_⟩⟩
    refine r2.setStart _ fun h3 r3 => ?_
    have hd := kdel_len hf
    refine lea_next hle (k := (kdel l z).length) ?_ (by omega)
    rw [hP]
    rw [hn, runP_some hf, ← hd] at e1 e2
    rw [show kfind (x.wk z l).kept z = some f from hf] at r3
    refine ⟨kdel l z, addZ z 1, up' ++ [f], ⟨r3, fun f hf => hok1 f (kdel_sub hf), by omega, by simp; omega, addZ_b⟩, rfl, ?_, e2⟩
    rw [← e1, List.append_assoc]; rfl
theorem rleave_c (r : Rp W h b T size css t x up bu Tu G) (hok : ∀ f ∈ x.kept, FmOk f) (hnd : KNd x.kept) (hl : x.kept.length ≤ 100000) (hu : up.length ≤ 500000) (hst : 0 ≤ x.start ∧ x.start ≤ 4095) :
    Runs Tryz.prog 54 #[.pointer (some ⟨b, 13 + t * 8, none⟩), .pointer (some ⟨bu, 0, none⟩)] h fun v h' => ∃ z, Rp W h' b T size css t (x.wk z []) (up ++ (upP 4096 x.kept x.start).1) bu Tu G := by
  refine vc_muezzinref24_part_leave _ _ _ _ ?_
  have hall := upP_all hnd hst fun f hf => ⟨(hok f hf).s0, (hok f hf).s1⟩
  obtain ⟨P, hP⟩ : ∃ P : Heap → Nat → Prop, P = fun h' n => ∃ l z up', UpI W b T size css t x bu Tu G [] h' l z up' ∧ up' ++ (upP n l z).1 = up ++ (upP 4096 x.kept x.start).1 ∧ (upP n l z).2 = [] := ⟨_, rfl⟩
  have h0 : P h 4096 := by rw [hP]; exact ⟨x.kept, x.start, up, ⟨r, hok, hl, by omega, hst⟩, rfl, hall⟩
  refine ⟨fun h' => ∃ n, P h' n, fun h' => lea (P h'), ⟨_, h0⟩, fun _ => ?_⟩
  rintro h1 hI
  obtain ⟨n, hPn, hle⟩ := lea_spec hI
  have hPn0 := hPn
  rw [hP] at hPn0
  obtain ⟨l, z, up', ⟨r1, hok1, hl1, hu1, hz⟩, e1, e2⟩ := hPn0
  obtain ⟨ka, kc, hkc⟩ := r1.kept
  refine ⟨_, _, _, hkc, dcase_intro (fun q => ?_) fun q => ?_⟩
  · refine ⟨z, r1.start, (rout1_c r1 hok1 hl1 (by omega) z).mono ?_⟩
    rintro _ h2 ⟨rfl, r2⟩
    refine ⟨_, rfl, z, r2.start, (radd_c _ _ _).ret ⟨_, rfl, ?_⟩⟩
    refine r2.setStart _ fun h3 r3 => ?_
    cases n with
    | zero =>
      rw [upP] at e2
      have e3 : l = [] := e2
      have q' : (0 : Int) < (l.length : Int) := q
      rw [e3] at q'; simp at q'
    | succ n =>
      refine lea_next hle (k := n) ?_ (by omega)
      rw [hP]
      rw [upP_step] at e1 e2
      have hk := kfl (l := l) (n := z)
      refine ⟨kdel l z, addZ z 1, up' ++ (kfind l z).toList, ⟨r3, fun f hf => hok1 f (kdel_sub hf), by omega, by rw [List.length_append]; omega, addZ_b⟩, ?_, e2⟩
      rw [← e1, List.append_assoc]
  · have q' : ¬ (0 : Int) < (l.length : Int) := q
    have hl0 : l = [] := List.eq_nil_of_length_eq_zero (by omega)
    subst hl0
    rw [upP_nil, List.append_nil] at e1
    rw [← e1]
    exact ⟨z, r1⟩
end
section
variable {W W' : Wd} {h h' : Heap} {b t j n c bu i : Nat} {a : Option Addr} {T Tu : TypeId} {size : Int} {css : List (List Value)} {cs us vs : List Value} {G G' : List Grp} {v kv : Value} {x : Ses} {f : Fm} {E : Grp} {up : List Fm}
theorem rslide_c (s : St W h b T size css t (parC x kv) G) (n : Int) (hn : 0 ≤ n ∧ n ≤ 4096) :
    Runs Tryz.prog 68 #[.pointer (some ⟨b, 13 + t * 8, none⟩), .int .i64 n] h fun v h' => St W h' b T size css t (parC { x with bits := if 64 ≤ n then 0 else x.bits / pow2 n, fr := addZ x.fr n } kv) G := by
  refine vc_muezzinref24_part_slide _ _ _ _ (dcase_intro (fun q => ?_) fun q => ?_)
  · refine s.set 5 rfl fun h2 s2 => ?_
    refine ⟨_, s2.get 4 rfl, (radd_c _ _ _).ret ⟨_, rfl, ?_⟩⟩
    refine s2.set 4 rfl fun h3 s3 => ?_
    rw [if_pos q]; exact s3
  · refine ⟨_, s.get 5 rfl, by simp only [fits]; omega, ⟨hn.1, by simp only [kbits]; omega⟩, ?_⟩
    refine s.set 5 rfl fun h2 s2 => ?_
    refine ⟨_, s2.get 4 rfl, (radd_c _ _ _).ret ⟨_, rfl, ?_⟩⟩
    refine s2.set 4 rfl fun h3 s3 => ?_
    rw [if_neg q]; exact s3
theorem u64_small {n : Int} (h0 : 0 ≤ n) (h1 : n < 18446744073709551616) : IntKind.u64.wrap n = n := wrap_fits (show fits .u64 n by simp only [fits]; omega)
theorem rmark_k {Post : Value → Heap → Prop} (s : St W h b T size css t (parC x kv) G) (d : Int) (h0 : 0 ≤ d) (hd : d < 64) (q : ∀ h', St W h' b T size css t (parC { x with bits := bitO x.bits (1 * pow2 d) } kv) G → Post (.tuple #[]) h') :
    onAddr (some ⟨b, 13 + t * 8, none⟩) fun b3 o3 => ∃ n6 : Int, cell h b3 (o3 + 5) = some (.int .u64 n6) ∧ (0 ≤ (IntKind.u64.wrap d) ∧ (IntKind.u64.wrap d) ≤ kbits .u64) ∧ onAddr (some ⟨b, 13 + t * 8, none⟩) fun b4 o4 =>
      wr h b4 (o4 + 5) ∧ ∀ h5 : Heap, h5 = setc h b4 (o4 + 5) (.int .u64 (bits .or .u64 n6 (IntKind.u64.wrap ((1 : Int) * (pow2 (IntKind.u64.wrap d)))))) → Post (.tuple #[]) h5 := by
  obtain ⟨p1, p2⟩ := pow2_bd h0 hd
  rw [u64_small h0 (by omega), u64_small (n := 1 * pow2 d) (by omega) (by omega)]
  refine ⟨_, s.get 5 rfl, ⟨h0, by simp only [kbits]; omega⟩, ?_⟩
  exact s.set 5 rfl fun h5 s5 => q h5 s5
theorem rmark_c (s : St W h b T size css t (parC x kv) G) (n : Int) (hn : 0 ≤ n ∧ n ≤ 4095) (hf : 0 ≤ x.fr ∧ x.fr ≤ 4095) :
    Runs Tryz.prog 88 #[.pointer (some ⟨b, 13 + t * 8, none⟩), .int .i64 n] h fun v h' => St W h' b T size css t (parC (x.stand n) kv) G := by
  have hd := distZ_bd x.fr n
  refine vc_muezzinref24_part_mark _ _ _ _ ?_
  refine ⟨_, s.get 4 rfl, (rdist_c _ _ _).ret ⟨_, rfl, dcase_intro (fun q => dcase_intro (fun q2 => ?_) fun q2 => ?_) fun q => ?_⟩⟩
  · refine (radd_c _ _ _).ret ⟨_, rfl, _, s.get 4 rfl, (rdist_c _ _ _).ret ⟨_, rfl, (rslide_c s _ (by unfold distZ; omega)).mono ?_⟩⟩
    intro _ h3 s3
    refine dcase_pos (by decide) ?_
    refine rmark_k (Post := fun _ h' => St W h' b T size css t (parC (x.stand n) kv) G) s3 63 (by decide) (by decide) fun h' s' => ?_
    have e1 : addZ x.fr (distZ x.fr (addZ n (-63))) = addZ n (-63) := by unfold addZ distZ; omega
    have e2 : distZ (addZ n (-63)) n = 63 := by unfold addZ distZ; omega
    have e : x.stand n = { x with bits := bitO (if 64 ≤ distZ x.fr (addZ n (-63)) then 0 else x.bits / pow2 (distZ x.fr (addZ n (-63)))) (1 * pow2 63), fr := addZ x.fr (distZ x.fr (addZ n (-63))) } := by
      unfold Ses.stand
      rw [if_pos ⟨q, by omega⟩]
      unfold Ses.mark Ses.move
      dsimp only
      rw [e2, if_pos (by decide), e1]
    rw [e]; exact s'
  · refine dcase_neg (by omega) ?_
    have e : x.stand n = x := by
      unfold Ses.stand
      rw [if_neg (fun c => q2 (by omega))]
      unfold Ses.mark
      rw [if_neg (by omega)]
    rw [e]; exact s
  · refine dcase_pos (by omega) ?_
    refine rmark_k (Post := fun _ h' => St W h' b T size css t (parC (x.stand n) kv) G) s _ hd.1 (by omega) fun h' s' => ?_
    have e : x.stand n = { x with bits := bitO x.bits (1 * pow2 (distZ x.fr n)) } := by
      unfold Ses.stand
      rw [if_neg (fun c => q c.1)]
      unfold Ses.mark
      rw [if_pos (by omega)]
    rw [e]; exact s'
end
end Go.Proofs.YtepodifionoigaaGreatDoor
