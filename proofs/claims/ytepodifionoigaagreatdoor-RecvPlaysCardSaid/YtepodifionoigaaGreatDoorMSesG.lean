import Derived.Test.YtepodifionoigaaGreatDoorMAct2
import Derived.Test.YtepodifionoigaaGreatDoorMSq
import Derived.Test.YtepodifionoigaaGreatDoorR24c
set_option linter.unusedVariables false
set_option linter.unusedSimpArgs false
set_option maxRecDepth 8000
namespace Go.Proofs.YtepodifionoigaaGreatDoor
open Go.Vc
def by0 (xs : List Int) (i : Nat) : Int := xs.getD i 0
def wd (xs : List Int) (i : Nat) : Int := by0 xs i + by0 xs (i + 1) * 256
def sub6 (xs : List Int) (i : Nat) : List Int := (xs.drop i).take 6
theorem get_by0 {xs : List Int} {k : Nat} (h : k < xs.length) : xs[k]? = some (by0 xs k) := by
  rw [List.getElem?_eq_getElem h]
  simp [by0, List.getD, h]
theorem by0_mem {xs : List Int} {k : Nat} (h : k < xs.length) : by0 xs k ∈ xs := List.mem_of_getElem? (get_by0 h)
theorem get_drop {xs : List Int} {o k : Nat} (h : o + k < xs.length) : (xs.drop o)[k]? = some (by0 xs (o + k)) := by rw [List.getElem?_drop]; exact get_by0 h
theorem sub6_len {xs : List Int} {i : Nat} (h : i + 6 ≤ xs.length) : (sub6 xs i).length = 6 := by unfold sub6; rw [List.length_take, List.length_drop]; omega
theorem cons_of {n : Nat} {xs : List Int} (h : n + 1 ≤ xs.length) : ∃ x r, xs = x :: r ∧ n ≤ r.length := by
  cases xs with
  | nil => simp at h
  | cons x r => exact ⟨x, r, rfl, by simpa using h⟩
def addC2 (to fr bss : List Int) (ans : Bool) (token tid size tmo sq st : Int) : List Value := ints .u8 to ++ (ints .u8 fr ++ (ints .u8 bss ++ [.bool ans, .int .i64 token, .int .i64 tid, .int .i64 size, .int .i64 tmo, .int .i64 sq, .int .i64 st]))
theorem addC2_one (to fr bss : List Int) (ans : Bool) (token tid size tmo sq st : Int) : ∀ u ∈ addC2 to fr bss ans token tid size tmo sq st, u.oneCell' = true := by
  intro u hu
  unfold addC2 at hu
  simp only [List.mem_append] at hu
  rcases hu with hu | hu | hu | hu
  · exact ints_one u hu
  · exact ints_one u hu
  · exact ints_one u hu
  · simp only [List.mem_cons, List.not_mem_nil, or_false] at hu
    rcases hu with rfl | rfl | rfl | rfl | rfl | rfl | rfl <;> rfl
section
variable {W W' : Wd} {h h' : Heap} {G : List Grp} {E : Grp} {a a2 : Option Addr} {l r c c2 n k : Nat} {vs us : List Value} {bs xs ys to fr bss : List Int} {token tid size sq tmo st : Int}
theorem top_out {n m : Int} {h : Heap} {Post : Value → Heap → Prop} (h0 : 0 ≤ n) (hn : m < n) (k : Post (.bool false) h) : Runs Tryz.prog 112 #[.int .i64 n, .int .i64 m] h Post :=
  vc_act_top _ _ _ _ (dcase_pos h0 (by rwa [show decide (n ≤ m) = false from decide_eq_false (by omega)]))
theorem addrsX_c (m : Me W h G) (hb : Bts W (.slice a n c) xs) (hl : 22 ≤ xs.length) :
    Runs Tryz.prog 97 #[.slice a n c] h fun v h' => v = .tuple #[.agg (ints .u8 (sub6 xs 4)).toArray, .agg (ints .u8 (sub6 xs 10)).toArray, .agg (ints .u8 (sub6 xs 16)).toArray] ∧ Me W h' G := by
  obtain ⟨x0, r0, e0, l0⟩ := cons_of (n := 21) hl
  obtain ⟨x1, r1, e1, l1⟩ := cons_of (n := 20) l0
  obtain ⟨x2, r2, e2, l2⟩ := cons_of (n := 19) l1
  obtain ⟨x3, r3, e3, l3⟩ := cons_of (n := 18) l2
  obtain ⟨x4, r4, e4, l4⟩ := cons_of (n := 17) l3
  obtain ⟨x5, r5, e5, l5⟩ := cons_of (n := 16) l4
  obtain ⟨x6, r6, e6, l6⟩ := cons_of (n := 15) l5
  obtain ⟨x7, r7, e7, l7⟩ := cons_of (n := 14) l6
  obtain ⟨x8, r8, e8, l8⟩ := cons_of (n := 13) l7
  obtain ⟨x9, r9, e9, l9⟩ := cons_of (n := 12) l8
  obtain ⟨x10, r10, e10, l10⟩ := cons_of (n := 11) l9
  obtain ⟨x11, r11, e11, l11⟩ := cons_of (n := 10) l10
  obtain ⟨x12, r12, e12, l12⟩ := cons_of (n := 9) l11
  obtain ⟨x13, r13, e13, l13⟩ := cons_of (n := 8) l12
  obtain ⟨x14, r14, e14, l14⟩ := cons_of (n := 7) l13
  obtain ⟨x15, r15, e15, l15⟩ := cons_of (n := 6) l14
  obtain ⟨x16, r16, e16, l16⟩ := cons_of (n := 5) l15
  obtain ⟨x17, r17, e17, l17⟩ := cons_of (n := 4) l16
  obtain ⟨x18, r18, e18, l18⟩ := cons_of (n := 3) l17
  obtain ⟨x19, r19, e19, l19⟩ := cons_of (n := 2) l18
  obtain ⟨x20, r20, e20, l20⟩ := cons_of (n := 1) l19
  obtain ⟨x21, r21, e21, l21⟩ := cons_of (n := 0) l20
  subst e21 e20 e19 e18 e17 e16 e15 e14 e13 e12 e11 e10 e9 e8 e7 e6 e5 e4 e3 e2 e1 e0
  refine (addrs_c m hb).mono ?_
  rintro _ h1 ⟨rfl, m1⟩
  exact ⟨rfl, m1⟩
theorem neqB_c (m : Me W h G) (h1 : Bts W (.slice a n c) xs) (h2 : Bts W (.slice a2 k c2) ys) (hne : Lib.bytesOf xs ≠ Lib.bytesOf ys) :
    Runs Tryz.prog 94 #[.slice a n c, .slice a2 k c2] h fun v h' => v = .bool false ∧ h' = h :=
  runs_of_calls fun w hw => by
    have := Tryz.bytes_Equal_all a a2 n c k c2 xs ys w (bts_src h1).2.1 (bts_src h2).2.1 (bytesIn hw m h1) (bytesIn hw m h2)
    rwa [show (Lib.bytesOf xs == Lib.bytesOf ys) = false from beq_false_of_ne hne] at this
end
end Go.Proofs.YtepodifionoigaaGreatDoor
set_option linter.unusedVariables false
set_option linter.unusedSimpArgs false
set_option maxRecDepth 8000
namespace Go.Proofs.YtepodifionoigaaGreatDoor
open Go.Vc
def barC (to fr : List Int) (tid sq : Int) : List Value := ints .u8 to ++ (ints .u8 fr ++ [.int .i64 tid, .int .i64 sq])
theorem barC_one (to fr : List Int) (tid sq : Int) : ∀ u ∈ barC to fr tid sq, u.oneCell' = true := by
  intro u hu
  unfold barC at hu
  simp only [List.mem_append] at hu
  rcases hu with hu | hu | hu
  · exact ints_one u hu
  · exact ints_one u hu
  · simp only [List.mem_cons, List.not_mem_nil, or_false] at hu
    rcases hu with rfl | rfl <;> rfl
section
variable {W W' : Wd} {h h' : Heap} {G : List Grp} {E : Grp} {a a2 : Option Addr} {l r c c2 n k : Nat} {vs us : List Value} {bs xs ys to fr : List Int} {tid sq : Int}
theorem cnum_c {x y : Int} (m : Me W h G) (hb : Bts W (.slice a n c) xs) (h0 : xs[0]? = some x) (h1 : xs[1]? = some y) (hx : 0 ≤ x ∧ x < 256) (hy : 0 ≤ y ∧ y < 256) :
    Runs Tryz.prog 110 #[.slice a n c] h fun v h' => v = .int .i64 (x + y * 256) ∧ h' = h := by
  have hl := (List.getElem?_eq_some_iff.1 h1).1
  obtain ⟨b, o, rfl, hn, hc, hcl⟩ := bts_opn hb (by omega)
  refine vc_ctl_number _ _ _ _ _ ⟨⟨by decide, by omega⟩, x, m.wcell (by simpa using hcl 0 x h0), by simp only [fits]; omega, ⟨by decide, by omega⟩, y, m.wcell (hcl 1 y h1), by simp only [fits]; omega, by decide, by simp only [fits]; omega, ?_, rfl⟩
  rw [or_lo hx hy]
theorem rbarBytes_c (m : Me W h G) (h1 : to.length = 6) (h2 : fr.length = 6) (ht : 0 ≤ tid ∧ tid ≤ 7) (hs : 0 ≤ sq ∧ sq ≤ 4095) :
    Runs Tryz.prog 23 #[.agg (barC to fr tid sq).toArray] h (Bmade W G (askB 132 to fr tid sq) fun v => .tuple #[v, .int .i64 0]) := by
  have hL := askB_len (tid := tid) (sq := sq) 132 h1 h2
  obtain ⟨x1, x2, x3, x4, x5, x6, rfl⟩ := six_of h1
  obtain ⟨y1, y2, y3, y4, y5, y6, rfl⟩ := six_of h2
  refine vc_muezzinref1_BarBytes _ _ _ ?_
  intro b1 g1 e1 e2
  replace m := m.push e2 e1
  refine ⟨_, m.cell 0 rfl rfl, rout_in ⟨ht.1, ht.2⟩ ⟨_, rfl, bcase_false rfl ?_⟩⟩
  refine ⟨_, m.cell 0 rfl rfl, rout_in ⟨hs.1, hs.2⟩ ⟨_, rfl, bcase_false rfl ?_⟩⟩
  refine ⟨_, m.row 0 rfl rfl (Nat.le_of_ble_eq_true rfl), _, m.row 0 rfl rfl (Nat.le_of_ble_eq_true rfl), tid, m.cell 0 rfl rfl, by simp only [fits]; omega, by simp only [fits]; omega, sq, m.cell 0 rfl rfl, by simp only [fits]; omega, ?_⟩
  intro b2 g2 f1 f2
  have m2 := m.push f2 f1
  have o2 : Ow (some ⟨b2, 0, none⟩) 4 4 1 (ints .u8 [132, 0, 0, 0]) [(b2, ints .u8 [132, 0, 0, 0], 5)] := Ow.fresh0 rfl
  refine (raddr_c (xs := [x1, x2, x3, x4, x5, x6]) (bs := [132, 0, 0, 0]) o2 m2 rfl (Nat.le_of_ble_eq_true rfl)).mono ?_
  rintro _ h3 ⟨a3, c3, E3, rfl, m3, o3⟩
  refine ⟨_, _, _, rfl, m3.cell 1 rfl rfl, m3.cell 1 rfl rfl, m3.row 1 rfl rfl (Nat.le_of_ble_eq_true rfl), ?_⟩
  refine (raddr_c (xs := [y1, y2, y3, y4, y5, y6]) (bs := [132, 0, 0, 0] ++ [x1, x2, x3, x4, x5, x6]) o3 m3 rfl (Nat.le_of_ble_eq_true rfl)).mono ?_
  rintro _ h4 ⟨a4, c4, E4, rfl, m4, o4⟩
  refine ⟨_, _, _, rfl, m4.cell 1 rfl rfl, m4.cell 1 rfl rfl, ?_⟩
  refine (rtwo_c (bs := [132, 0, 0, 0] ++ [x1, x2, x3, x4, x5, x6] ++ [y1, y2, y3, y4, y5, y6]) (4 + tid * 4096) o4 m4 (Nat.le_of_ble_eq_true rfl)).mono ?_
  rintro _ h5 ⟨a5, c5, E5, rfl, m5, o5⟩
  refine ⟨_, _, _, rfl, m5.cell 1 rfl rfl, ?_⟩
  refine (rtwo_c (bs := [132, 0, 0, 0] ++ [x1, x2, x3, x4, x5, x6] ++ [y1, y2, y3, y4, y5, y6] ++ [(4 + tid * 4096) % 256, (4 + tid * 4096) / 256 % 256]) (sq * 16) o5 m5 (Nat.le_of_ble_eq_true rfl)).mono ?_
  rintro _ h6 ⟨a6, c6, E6, rfl, m6, o6⟩
  refine ⟨_, _, _, rfl, ?_⟩
  have o10 : Ow a6 (askB 132 [x1, x2, x3, x4, x5, x6] [y1, y2, y3, y4, y5, y6] tid sq).length c6 1 (ints .u8 (askB 132 [x1, x2, x3, x4, x5, x6] [y1, y2, y3, y4, y5, y6] tid sq)) E6 := by rw [hL]; exact o6
  obtain ⟨W', hl, m10, hb10⟩ := ow_give o10 m6
  exact ⟨W', a6, c6, hl, by rw [hL]; rfl, m10.drop1, hb10⟩
theorem cbarBytes_c (m : Me W h G) (h1 : to.length = 6) (h2 : fr.length = 6) (ht : 0 ≤ tid ∧ tid ≤ 7) (hs : 0 ≤ sq ∧ sq ≤ 4095) :
    Runs Tryz.prog 93 #[.agg (barC to fr tid sq).toArray] h (Bmade W G (askB 132 to fr tid sq) fun v => .tuple #[v, .nilIface]) := by
  have hL := askB_len (tid := tid) (sq := sq) 132 h1 h2
  obtain ⟨x1, x2, x3, x4, x5, x6, rfl⟩ := six_of h1
  obtain ⟨y1, y2, y3, y4, y5, y6, rfl⟩ := six_of h2
  refine vc_ctl_BarBytes _ _ _ ?_
  intro b1 g1 e1 e2
  replace m := m.push e2 e1
  refine ⟨_, m.row 0 rfl rfl (Nat.le_of_ble_eq_true rfl), _, m.row 0 rfl rfl (Nat.le_of_ble_eq_true rfl), _, m.cell 0 rfl rfl, _, m.cell 0 rfl rfl, ?_⟩
  refine (asks_c (to := [x1, x2, x3, x4, x5, x6]) (fr := [y1, y2, y3, y4, y5, y6]) 132 m rfl rfl ht hs).mono ?_
  rintro _ g2 ⟨a2, c2, E2, rfl, m, o2⟩
  refine ⟨_, _, _, _, rfl, ?_⟩
  have o10 : Ow a2 (askB 132 [x1, x2, x3, x4, x5, x6] [y1, y2, y3, y4, y5, y6] tid sq).length c2 1 (ints .u8 (askB 132 [x1, x2, x3, x4, x5, x6] [y1, y2, y3, y4, y5, y6] tid sq)) E2 := by rw [hL]; exact o2
  obtain ⟨W', hl, m10, hb10⟩ := ow_give o10 m
  exact ⟨W', a2, c2, hl, by rw [hL], m10.drop1, hb10⟩
end
end Go.Proofs.YtepodifionoigaaGreatDoor
set_option linter.unusedVariables false
set_option linter.unusedSimpArgs false
set_option maxRecDepth 8000
namespace Go.Proofs.YtepodifionoigaaGreatDoor
open Go.Vc
section
variable {W W' : Wd} {h h' : Heap} {b t j n c : Nat} {a : Option Addr} {T : TypeId} {size : Int} {css : List (List Value)} {cs us vs : List Value} {G G' : List Grp} {v : Value} {x : Ses} {f : Fm} {mv : Option Nat} {Q : Heap → Prop} {E : Grp} {to : Int}
end
end Go.Proofs.YtepodifionoigaaGreatDoor
set_option linter.unusedVariables false
set_option linter.unusedSimpArgs false
set_option maxRecDepth 8000
namespace Go.Proofs.YtepodifionoigaaGreatDoor
open Go.Vc
theorem pigeon : ∀ (n : Nat) (l : List Nat), l.Nodup → (∀ x ∈ l, x < n) → l.length ≤ n
  | 0, l, _, h => by
    cases l with
    | nil => exact Nat.le_refl 0
    | cons x r => exact absurd (h x (by simp)) (by omega)
  | n + 1, l, hn, h => by
    have ih := pigeon n (l.erase n) (hn.erase n) fun x hx => by
      obtain ⟨h1, h2⟩ := (hn.mem_erase_iff).1 hx
      have := h x h2
      omega
    rw [List.length_erase] at ih
    split at ih <;> omega
structure SesG (x : Ses) : Prop where
  ok : SesOk x
  nd : KNd x.kept
theorem ses0_g : SesG ses0 := ⟨ses0_ok, by unfold KNd ses0; simp⟩
theorem knd_len {l : List Fm} (h : KNd l) (hk : ∀ f ∈ l, FmOk f) : l.length ≤ 4096 := by
  have h2 : (l.map fun f => f.sq.toNat).Nodup := by
    rw [List.nodup_iff_pairwise_ne, List.pairwise_map]
    have h3 : l.Pairwise fun a b => a.sq ≠ b.sq := by
      have := h
      unfold KNd at this
      rwa [List.nodup_iff_pairwise_ne, List.pairwise_map] at this
    refine h3.imp_of_mem fun {a b} ha hb hab e => hab ?_
    have h1 := (hk a ha).s0
    have h2 := (hk b hb).s0
    omega
  have h3 := pigeon 4096 _ h2 fun x hx => by
    obtain ⟨f, hf, rfl⟩ := List.mem_map.1 hx
    have h1 := (hk f hf).s0
    have h2 := (hk f hf).s1
    omega
  rwa [List.length_map] at h3
theorem KNd.sublist {l m : List Fm} (h : KNd l) (hs : m.Sublist l) : KNd m := (hs.map Fm.sq).nodup h
theorem upP_subl : ∀ (d : Nat) {l : List Fm} {s : Int}, (upP d l s).2.Sublist l
  | 0, l, s => List.Sublist.refl l
  | d + 1, l, s => by rw [upP_step]; exact (upP_subl d).trans (List.eraseP_sublist)
theorem runP_subl : ∀ (n : Nat) {l : List Fm} {s : Int}, (runP n l s).2.1.Sublist l
  | 0, l, s => List.Sublist.refl l
  | n + 1, l, s => by
    cases hq : kfind l s with
    | none => rw [runP_none hq]; exact List.Sublist.refl l
    | some f => rw [runP_some hq]; exact (runP_subl n).trans (List.eraseP_sublist)
theorem runP_st : ∀ (n : Nat) {l : List Fm} {s : Int}, 0 ≤ s ∧ s ≤ 4095 → 0 ≤ (runP n l s).2.2 ∧ (runP n l s).2.2 ≤ 4095
  | 0, l, s, h => h
  | n + 1, l, s, h => by
    cases hq : kfind l s with
    | none => rw [runP_none hq]; exact h
    | some f => rw [runP_some hq]; exact runP_st n addZ_b
section
variable {x : Ses} {n to : Int} {f : Fm}
theorem bitO_bd {a b : Int} (ha : 0 ≤ a ∧ a < 18446744073709551616) (hb : 0 ≤ b ∧ b < 18446744073709551616) : 0 ≤ bitO a b ∧ bitO a b < 18446744073709551616 := by
  obtain ⟨m, rfl⟩ := Int.eq_ofNat_of_zero_le ha.1
  obtain ⟨n, rfl⟩ := Int.eq_ofNat_of_zero_le hb.1
  unfold bitO
  rw [bor_u64 (by omega) (by omega)]
  have : m ||| n < 2 ^ 64 := Nat.or_lt_two_pow (by omega) (by omega)
  omega
theorem mark_ok (hf : 0 ≤ x.fr ∧ x.fr ≤ 4095) (hb : 0 ≤ x.bits ∧ x.bits < 18446744073709551616) : (0 ≤ (x.mark n).fr ∧ (x.mark n).fr ≤ 4095) ∧ 0 ≤ (x.mark n).bits ∧ (x.mark n).bits < 18446744073709551616 := by
  unfold Ses.mark
  split
  · rename_i h
    obtain ⟨p1, p2⟩ := pow2_bd (distZ_bd x.fr n).1 h
    exact ⟨hf, bitO_bd hb (by omega)⟩
  · exact ⟨hf, hb⟩
theorem move_ok (hn : 0 ≤ n ∧ n ≤ 4095) (hb : 0 ≤ x.bits ∧ x.bits < 18446744073709551616) : (0 ≤ (x.move n).fr ∧ (x.move n).fr ≤ 4095) ∧ 0 ≤ (x.move n).bits ∧ (x.move n).bits < 18446744073709551616 := by
  refine ⟨hn, ?_⟩
  show 0 ≤ (if 64 ≤ distZ x.fr n then 0 else x.bits / pow2 (distZ x.fr n)) ∧ (if 64 ≤ distZ x.fr n then 0 else x.bits / pow2 (distZ x.fr n)) < _
  split
  · decide
  · rename_i h
    obtain ⟨p1, p2⟩ := pow2_bd (distZ_bd x.fr n).1 (by omega)
    have h1 := Int.ediv_nonneg hb.1 (Int.le_of_lt p1)
    have h2 := Int.ediv_le_self (pow2 (distZ x.fr n)) hb.1
    omega
theorem stand_ok (hf : 0 ≤ x.fr ∧ x.fr ≤ 4095) (hb : 0 ≤ x.bits ∧ x.bits < 18446744073709551616) : (0 ≤ (x.stand n).fr ∧ (x.stand n).fr ≤ 4095) ∧ 0 ≤ (x.stand n).bits ∧ (x.stand n).bits < 18446744073709551616 := by
  unfold Ses.stand
  split
  · have hb2 := addZ_bd n (-63)
    obtain ⟨h1, h2⟩ := move_ok (x := x) (n := addZ n (-63)) (by omega) hb
    exact mark_ok h1 h2
  · exact mark_ok hf hb
theorem stand_ok' (hok : SesOk x) : SesOk (x.stand n) := by
  obtain ⟨h1, h2⟩ := stand_ok (n := n) hok.f hok.b
  obtain ⟨k1, k2, k3, k4, k5⟩ := stand_kept x n
  exact ⟨by rw [k2]; exact hok.s, h1, by rw [k5]; exact hok.l, h2, by rw [k3]; exact hok.z, by rw [k1]; exact hok.k, by rw [k1]; exact hok.n⟩
theorem stand_g (h : SesG x) : SesG (x.stand n) := ⟨stand_ok' h.ok, by rw [(stand_kept x n).1]; exact h.nd⟩
theorem move_g (h : SesG x) (hn : 0 ≤ n ∧ n ≤ 4095) : SesG (x.move n) := by
  obtain ⟨h1, h2⟩ := move_ok (x := x) hn h.ok.b
  exact ⟨⟨h.ok.s, h1, h.ok.l, h2, h.ok.z, h.ok.k, h.ok.n⟩, h.nd⟩
theorem SesG.kp {l : List Fm} {s : Int} (h : SesG x) (hl : l.Sublist x.kept) (hs : 0 ≤ s ∧ s ≤ 4095) : SesG { x with start := s, kept := l } :=
  ⟨⟨hs, h.ok.f, h.ok.l, h.ok.b, h.ok.z, fun f hf => h.ok.k f (hl.subset hf), Nat.le_trans hl.length_le h.ok.n⟩, h.nd.sublist hl⟩
theorem up_g (h : SesG x) (ht : 0 ≤ to ∧ to ≤ 4095) : SesG (x.up to).2 := h.kp (upP_subl _) ht
theorem run_g (h : SesG x) : SesG x.run.2 := h.kp (runP_subl _) (runP_st _ h.ok.s)
theorem put_g (h : SesG x) (hf : FmOk f) : SesG (x.put f) := by
  unfold Ses.put
  split
  · exact h
  · rename_i q
    have hk : ∀ g ∈ x.kept ++ [f], FmOk g := fun g hg => by
      rcases List.mem_append.1 hg with hg | hg
      · exact h.ok.k g hg
      · rw [List.mem_singleton] at hg; subst hg; exact hf
    have hnd : KNd (x.kept ++ [f]) := by
      unfold KNd
      rw [List.map_append, List.nodup_append]
      refine ⟨h.nd, by simp, fun a ha b hb e => ?_⟩
      simp at hb
      subst hb
      subst e
      obtain ⟨g, hg, he⟩ := List.mem_map.1 ha
      refine q ?_
      cases hq : kixN x.kept f.sq with
      | none => exact absurd he ((kix_none hq).2.2 g hg)
      | some i => obtain ⟨g', -, -, h3, -⟩ := kix_some hq; rw [h3]; rfl
    exact ⟨⟨h.ok.s, h.ok.f, h.ok.l, h.ok.b, h.ok.z, hk, knd_len hnd hk⟩, hnd⟩
theorem take_g (h : SesG x) (hf : FmOk f) : SesG (x.take f).2 := by
  unfold Ses.take
  split
  · unfold Ses.take2
    split
    · exact stand_g h
    · split
      · exact run_g (put_g (up_g (stand_g h) addZ_b) hf)
      · exact run_g (put_g (stand_g h) hf)
  · exact ⟨takeOff_ok h.ok hf, h.nd⟩
theorem put_len (y : Ses) (f : Fm) : (y.put f).kept.length ≤ y.kept.length + 1 := by
  unfold Ses.put
  split
  · omega
  · simp
theorem take_len (x : Ses) (f : Fm) : (x.take f).1.length + (x.take f).2.kept.length ≤ x.kept.length + 1 := by
  unfold Ses.take
  split
  · have hk := (stand_kept x f.sq).1
    unfold Ses.take2
    split
    · dsimp only; rw [hk]; simp
    · split
      · have h1 := up_lens (x.stand f.sq) (addZ f.sq (1 - (x.stand f.sq).size))
        have h2 := run_len (((x.stand f.sq).up (addZ f.sq (1 - (x.stand f.sq).size))).2.put f)
        have h3 := put_len ((x.stand f.sq).up (addZ f.sq (1 - (x.stand f.sq).size))).2 f
        rw [hk] at h1
        dsimp only
        rw [List.length_append]; omega
      · have h2 := run_len ((x.stand f.sq).put f)
        have h3 := put_len (x.stand f.sq) f
        rw [hk] at h3
        dsimp only; omega
  · unfold Ses.takeOff
    dsimp only
    split <;> simp <;> omega
def kepts : List Ses → Nat
  | [] => 0
  | x :: xs => x.kept.length + kepts xs
theorem kepts_set : ∀ {xs : List Ses} {t : Nat} {x y : Ses}, xs[t]? = some x → kepts (xs.set t y) + x.kept.length = kepts xs + y.kept.length
  | [], _, _, _, h => by simp at h
  | z :: xs, 0, x, y, h => by
    simp at h; subst h
    show y.kept.length + kepts xs + z.kept.length = z.kept.length + kepts xs + y.kept.length
    omega
  | z :: xs, t + 1, x, y, h => by
    have ih := kepts_set (xs := xs) (t := t) (y := y) (by simpa using h)
    show z.kept.length + kepts (xs.set t y) + x.kept.length = z.kept.length + kepts xs + y.kept.length
    omega
theorem kepts_le : ∀ {xs : List Ses}, (∀ x ∈ xs, SesG x) → kepts xs ≤ 4096 * xs.length
  | [], _ => Nat.le_refl _
  | x :: xs, h => by
    have h1 := (h x (by simp)).ok.n
    have h2 := kepts_le (xs := xs) fun y hy => h y (by simp [hy])
    show x.kept.length + kepts xs ≤ 4096 * (xs.length + 1)
    omega
end
end Go.Proofs.YtepodifionoigaaGreatDoor
