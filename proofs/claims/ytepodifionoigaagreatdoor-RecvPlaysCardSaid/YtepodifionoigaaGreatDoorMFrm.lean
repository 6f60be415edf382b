import Derived.Test.YtepodifionoigaaGreatDoorMNum
import Derived.Test.YtepodifionoigaaGreatDoorGenAll1
set_option linter.unusedVariables false
set_option linter.unusedSimpArgs false
set_option maxRecDepth 8000
namespace Go.Proofs.YtepodifionoigaaGreatDoor
open Go.Vc
theorem wrap8 (n : Int) : IntKind.u8.wrap n = n % 256 := by
  unfold IntKind.wrap
  simp [IntKind.bits, IntKind.signed]
theorem bor_i64 {m n : Nat} (hm : m < 9223372036854775808) (hn : n < 9223372036854775808) : bits .or .i64 (m : Int) (n : Int) = ((m ||| n : Nat) : Int) := by
  have e : bits .or .i64 (m : Int) (n : Int) = IntKind.i64.wrap ((BitVec.ofInt 64 (m : Int) ||| BitVec.ofInt 64 (n : Int)).toNat : Int) := rfl
  have e2 : (BitVec.ofInt 64 (m : Int) ||| BitVec.ofInt 64 (n : Int)).toNat = m ||| n := by
    rw [BitVec.toNat_or, BitVec.toNat_ofInt, BitVec.toNat_ofInt]
    rw [show ((m : Int) % (2 ^ 64 : Nat)).toNat = m by omega, show ((n : Int) % (2 ^ 64 : Nat)).toNat = n by omega]
  have h3 : m ||| n < 2 ^ 63 := Nat.or_lt_two_pow (by omega) (by omega)
  rw [e, e2, wrap_fits (show fits .i64 _ by simp only [fits]; omega)]
theorem bor_u64 {m n : Nat} (hm : m < 18446744073709551616) (hn : n < 18446744073709551616) : bits .or .u64 (m : Int) (n : Int) = ((m ||| n : Nat) : Int) := by
  have e : bits .or .u64 (m : Int) (n : Int) = IntKind.u64.wrap ((BitVec.ofInt 64 (m : Int) ||| BitVec.ofInt 64 (n : Int)).toNat : Int) := rfl
  have e2 : (BitVec.ofInt 64 (m : Int) ||| BitVec.ofInt 64 (n : Int)).toNat = m ||| n := by
    rw [BitVec.toNat_or, BitVec.toNat_ofInt, BitVec.toNat_ofInt]
    rw [show ((m : Int) % (2 ^ 64 : Nat)).toNat = m by omega, show ((n : Int) % (2 ^ 64 : Nat)).toNat = n by omega]
  have h3 : m ||| n < 2 ^ 64 := Nat.or_lt_two_pow (by omega) (by omega)
  rw [e, e2, wrap_fits (show fits .u64 _ by simp only [fits]; omega)]
theorem or_add {a b i : Nat} (hb : b < 2 ^ i) : b ||| a * 2 ^ i = b + a * 2 ^ i := by
  have h := Nat.two_pow_add_eq_or_of_lt hb a
  rw [Nat.or_comm, Nat.mul_comm, ← h]; omega
theorem or_lo {x y : Int} (hx : 0 ≤ x ∧ x < 256) (hy : 0 ≤ y ∧ y < 256) : bits .or .i64 x (y * 256) = x + y * 256 := by
  obtain ⟨m, rfl⟩ := Int.eq_ofNat_of_zero_le hx.1
  obtain ⟨n, rfl⟩ := Int.eq_ofNat_of_zero_le hy.1
  have e : ((n : Int) * 256) = ((n * 256 : Nat) : Int) := by omega
  rw [e, bor_i64 (by omega) (by omega), show (256 : Nat) = 2 ^ 8 from rfl, or_add (by omega)]
  omega
theorem flags_and (r m : Bool) : bits .andNot .u8 (2 + (if r then 8 else 0) + (if m then 32 else 0)) 40 = 2 ∧ decide ((0 : Int) < bits .and .u8 (2 + (if r then 8 else 0) + (if m then 32 else 0)) 8) = r ∧ decide ((0 : Int) < bits .and .u8 (2 + (if r then 8 else 0) + (if m then 32 else 0)) 32) = m := by
  cases r <;> cases m <;> decide
theorem tid_and (t : Int) (e : Bool) (h0 : 0 ≤ t) (h7 : t ≤ 7) : bits .andNot .u8 (t + (if e then 16 else 0)) 16 = t ∧ decide ((0 : Int) < bits .and .u8 (t + (if e then 16 else 0)) 16) = e := by
  have : t = 0 ∨ t = 1 ∨ t = 2 ∨ t = 3 ∨ t = 4 ∨ t = 5 ∨ t = 6 ∨ t = 7 := by omega
  rcases this with rfl | rfl | rfl | rfl | rfl | rfl | rfl | rfl <;> cases e <;> decide
def addZ (a n : Int) : Int := (a + n) % 4096
def distZ (a b : Int) : Int := (b - a) % 4096
theorem addZ_bd (a n : Int) : 0 ≤ addZ a n ∧ addZ a n < 4096 := by unfold addZ; omega
theorem distZ_bd (a n : Int) : 0 ≤ distZ a n ∧ distZ a n < 4096 := by unfold distZ; omega
theorem mod_c (n : Int) (h : Heap) : Runs Tryz.prog 71 #[.int .i64 n] h fun v h' => v = .int .i64 (n % 4096) ∧ h' = h := by
  refine vc_seq_mod _ _ _ ⟨by decide, by decide, ?_, rfl⟩
  rw [wrap_fits (show fits .i64 _ by simp only [fits]; rcases tmod_cases n 4096 (by omega) with h | h <;> omega)]
  rw [Int.tmod_eq_emod_of_nonneg (by rcases tmod_cases n 4096 (by omega) with h | h <;> omega)]
  rcases tmod_cases n 4096 (by omega) with h | h
  · rw [h.2]; congr 1; omega
  · rw [h.2]; congr 1; omega
theorem add_c (a n : Int) (h : Heap) : Runs Tryz.prog 77 #[.int .i64 a, .int .i64 n] h fun v h' => v = .int .i64 (addZ a n) ∧ h' = h := by
  refine vc_seq_Add _ _ _ _ ((mod_c _ _).ret ⟨_, rfl, (mod_c _ _).ret ⟨_, rfl, by simp only [fits]; omega, (mod_c _ _).ret ⟨_, rfl, ?_, rfl⟩⟩⟩)
  unfold addZ; congr 1; omega
theorem dist_c (a b : Int) (h : Heap) : Runs Tryz.prog 34 #[.int .i64 a, .int .i64 b] h fun v h' => v = .int .i64 (distZ a b) ∧ h' = h := by
  refine vc_seq_Dist _ _ _ _ ((mod_c _ _).ret ⟨_, rfl, (mod_c _ _).ret ⟨_, rfl, by simp only [fits]; omega, (mod_c _ _).ret ⟨_, rfl, ?_, rfl⟩⟩⟩)
  unfold distZ; congr 1; omega
theorem round_c (n : Int) (h : Heap) : Runs Tryz.prog 49 #[.int .i64 n] h fun v h' => v = .int .i64 (n % 4096) ∧ h' = h := by
  refine vc_muezzinref1_round _ _ _ ⟨by decide, ?_⟩
  rcases tmod_cases n 4096 (by decide) with ⟨h1, h2⟩ | ⟨h1, h2⟩
  · exact dcase_pos h1 ⟨by rw [wrap_fits (show fits .i64 _ by simp only [fits]; omega), h2], rfl⟩
  · exact dcase_neg (by omega) ⟨by rw [h2], rfl⟩
theorem radd_c (a n : Int) (h : Heap) : Runs Tryz.prog 24 #[.int .i64 a, .int .i64 n] h fun v h' => v = .int .i64 (addZ a n) ∧ h' = h := by
  refine vc_muezzinref1_Add _ _ _ _ ((round_c _ _).ret ⟨_, rfl, (round_c _ _).ret ⟨_, rfl, (round_c _ _).ret ⟨_, rfl, ?_, rfl⟩⟩⟩)
  rw [wrap_fits (show fits .i64 _ by simp only [fits]; omega)]
  unfold addZ; congr 1; omega
theorem rdist_c (a b : Int) (h : Heap) : Runs Tryz.prog 35 #[.int .i64 a, .int .i64 b] h fun v h' => v = .int .i64 (distZ a b) ∧ h' = h := by
  refine vc_muezzinref1_Dist _ _ _ _ ((round_c _ _).ret ⟨_, rfl, (round_c _ _).ret ⟨_, rfl, (round_c _ _).ret ⟨_, rfl, ?_, rfl⟩⟩⟩)
  rw [wrap_fits (show fits .i64 _ by simp only [fits]; omega)]
  unfold distZ; congr 1; omega
end Go.Proofs.YtepodifionoigaaGreatDoor
set_option linter.unusedVariables false
set_option linter.unusedSimpArgs false
set_option maxRecDepth 8000
namespace Go.Proofs.YtepodifionoigaaGreatDoor
open Go.Vc
section
variable {W W' : Wd} {h h' : Heap} {G : List Grp} {E : Grp} {a : Option Addr} {l c n k : Nat} {vs us : List Value} {bs xs : List Int}
theorem six_of {x : List Int} (h : x.length = 6) : ∃ a b c d e f, x = [a, b, c, d, e, f] := by
  match x, h with
  | [a, b, c, d, e, f], _ => exact ⟨a, b, c, d, e, f, rfl⟩
theorem _root_.Go.Vc.Ow.appn {bytes e : Nat} {e2 : TypeId} {Q : Option Addr → Nat → Heap → Prop} (o : Ow a l c 1 vs E) (m : Me W h (E :: G)) (hus : us.length = k) (h1 : ∀ u ∈ us, u.oneCell' = true) (hfit : (l + k) * bytes ≤ 140737488355328) (hb0 : 0 < bytes)
    (q : ∀ a' c' E' h', Me W h' (E' :: G) → Ow a' (l + k) c' 1 (vs ++ us) E' → Q a' c' h') :
    ∀ (b3 : Nat) (h3 : Heap), b3 = h.size → h3 = h.push (.cells us.toArray e2) → ∃ news : List Value, (Go.Vc.row h3 b3 0 k = some news ∧ ∀ u ∈ news, u.oneCell' = true) ∧ appK h3 a l c k 1 e bytes news Q := by
  intro b3 h3 e1 e2
  have m' := m.push e2 e1
  refine ⟨us, ⟨m'.row 0 rfl (by rw [List.drop_zero, ← hus, List.take_length]) (by omega), h1⟩, ?_⟩
  refine o.app m' 1 rfl (by simp [hus]) hfit hb0 fun a' c' E' h' m2 o2 => q a' c' E' h' ?_ o2
  exact m2.drop1
def Grew (W : Wd) (G : List Grp) (bs xs : List Int) (v : Value) (h' : Heap) : Prop := ∃ a' c' E', v = .slice a' (bs.length + xs.length) c' ∧ Me W h' (E' :: G) ∧ Ow a' (bs.length + xs.length) c' 1 (ints .u8 (bs ++ xs)) E'
theorem raddr_c (o : Ow a bs.length c 1 (ints .u8 bs) E) (m : Me W h (E :: G)) (hx : xs.length = 6) (hl : bs.length ≤ 1048576) :
    Runs Tryz.prog 48 #[.slice a bs.length c, .agg (ints .u8 xs).toArray] h (Grew W G bs xs) := by
  refine vc_muezzinref1_addr _ _ _ _ _ _ ?_
  intro b1 h1 e1 e2
  replace m := m.push e2 e1
  refine ⟨fun a' l' c' i h => ∃ (k : Nat) (E' : Grp), i = k ∧ k ≤ 6 ∧ l' = bs.length + k ∧ Me W h ([(b1, ints .u8 xs, 30)] :: E' :: G) ∧ Ow a' l' c' 1 (ints .u8 (bs ++ xs.take k)) E', fun _ _ _ i _ => (6 - i).toNat, ⟨0, E, rfl, by omega, rfl, m, by simpa using o⟩, fun _ => ?_⟩
  rintro a' l' c' _ h2 ⟨k, E', rfl, hk, rfl, m, o⟩
  refine dcase_intro (fun q => ?_) fun q => ?_
  · have hk6 : k < xs.length := by omega
    refine ⟨⟨by omega, by omega⟩, xs[k], m.cell 0 rfl (ints_get (by simp [hk6])), ?_⟩
    intro b3 h3 f1 f2
    refine o.appn (m.perm (G' := E' :: [(b1, ints .u8 xs, 30)] :: G) (by simp only [List.flatten_cons]; rw [← List.append_assoc, ← List.append_assoc]; exact List.perm_append_comm.append_right _)) (us := [.int .u8 xs[k]]) (k := 1) (e := 5) (bytes := 1) rfl (by simp [Value.oneCell']) (by omega) (by decide) (fun a2 c2 E2 h4 m2 o2 => ?_) b3 h3 f1 f2
    · refine ⟨by simp only [fits]; omega, ⟨k + 1, E2, by omega, by omega, by omega, m2.perm (by simp only [List.flatten_cons]; rw [← List.append_assoc, ← List.append_assoc]; exact List.perm_append_comm.append_right _), ?_⟩, by dsimp only; omega⟩
      have e : ints .u8 (bs ++ xs.take k) ++ [.int .u8 xs[k]] = ints .u8 (bs ++ xs.take (k + 1)) := by
        rw [List.take_add_one, List.getElem?_eq_getElem hk6, ← List.append_assoc, ints_app (l := bs ++ xs.take k)]; rfl
      rw [← e]; exact o2
  · obtain rfl : k = 6 := by omega
    have e : xs.take 6 = xs := List.take_of_length_le (by omega)
    rw [e] at o
    exact ⟨a', c', E', by rw [hx], m.drop1, by rw [hx]; exact o⟩
theorem rtwo_c (z : Int) (o : Ow a bs.length c 1 (ints .u8 bs) E) (m : Me W h (E :: G)) (hl : bs.length ≤ 1048576) :
    Runs Tryz.prog 45 #[.slice a bs.length c, .int .i64 z] h (Grew W G bs [z % 256, z / 256 % 256]) := by
  refine vc_muezzinref1_two _ _ _ _ _ _ ⟨by decide, ?_⟩
  rw [wrap8, wrap8]
  exact o.appn m rfl (by simp [Value.oneCell']) (by omega) (by decide) fun a' c' E' h' m' o' => ⟨a', c', E', rfl, m', by simpa [ints] using o'⟩
theorem rout_c (n m : Int) (h : Heap) : Runs Tryz.prog 47 #[.int .i64 n, .int .i64 m] h fun v h' => v = .bool (decide (n < 0 ∨ m < n)) ∧ h' = h := by
  refine vc_muezzinref1_out _ _ _ _ (dcase_intro (fun q => ⟨by simp [q], rfl⟩) fun q => ⟨by simp [q], rfl⟩)
theorem rout_in {n m : Int} {h : Heap} {Post : Value → Heap → Prop} (hn : 0 ≤ n ∧ n ≤ m) (k : Post (.bool false) h) : Runs Tryz.prog 47 #[.int .i64 n, .int .i64 m] h Post :=
  (rout_c n m h).ret (by rwa [show decide (n < 0 ∨ m < n) = false from decide_eq_false (by omega)])
theorem rflag_c (b : Bool) (n : Int) (h : Heap) : Runs Tryz.prog 51 #[.bool b, .int .i64 n] h fun v h' => v = .int .i64 (if b then n else 0) ∧ h' = h :=
  vc_muezzinref1_flag _ _ _ _ (bcase_intro (fun q => ⟨by simp [q], rfl⟩) fun q => ⟨by simp [q], rfl⟩)
end
structure Fm where
  to : List Int
  bss : List Int
  fr : List Int
  tid : Int
  sq : Int
  rt : Bool
  mo : Bool
  eo : Bool
  body : List Int
def fmc (f : Fm) (v : Value) : List Value := ints .u8 f.to ++ (ints .u8 f.bss ++ (ints .u8 f.fr ++ [.int .i64 f.tid, .int .i64 f.sq, .bool f.rt, .bool f.mo, .bool f.eo, v]))
structure FmOk (f : Fm) : Prop where
  l1 : f.to.length = 6
  l2 : f.bss.length = 6
  l3 : f.fr.length = 6
  t0 : 0 ≤ f.tid
  t7 : f.tid ≤ 7
  s0 : 0 ≤ f.sq
  s1 : f.sq ≤ 4095
  bl : f.body.length ≤ 1500
def FmV (W : Wd) (f : Fm) (cs : List Value) : Prop := ∃ v, cs = fmc f v ∧ Bts W v f.body
theorem FmV.le {W W' : Wd} {f : Fm} {cs : List Value} (hl : W.le W') (hv : FmV W f cs) : FmV W' f cs := by
  obtain ⟨v, e, hb⟩ := hv; exact ⟨v, e, hb.le hl⟩
def qosB (f : Fm) : List Int := ([136, 2 + (if f.rt then 8 else 0) + (if f.mo then 32 else 0), 0, 0] : List Int) ++ (f.to ++ (f.bss ++ (f.fr ++ ([f.sq * 16 % 256, f.sq * 16 / 256 % 256, f.tid + (if f.eo then 16 else 0), 0] ++ f.body))))
theorem me_swap2 {W : Wd} {h : Heap} {A B : Grp} {G : List Grp} (m : Me W h (A :: B :: G)) : Me W h (B :: A :: G) := m.perm (by
  simp only [List.flatten_cons]; rw [← List.append_assoc, ← List.append_assoc]; exact List.perm_append_comm.append_right _)
def Bmade (W : Wd) (G : List Grp) (l : List Int) (K : Value → Value) (v : Value) (h' : Heap) : Prop := ∃ W' a c, W.le W' ∧ v = K (.slice a l.length c) ∧ Me W' h' G ∧ Bts W' (.slice a l.length c) l
theorem Bts.slc {W : Wd} {v : Value} {l : List Int} (hb : Bts W v l) : ∃ a c, v = .slice a l.length c ∧ l.length ≤ c ∧ wsrc W a l.length (ints .u8 l) := hb
theorem ow_give {W : Wd} {h : Heap} {G : List Grp} {E : Grp} {a : Option Addr} {c : Nat} {l : List Int} (o : Ow a l.length c 1 (ints .u8 l) E) (m : Me W h (E :: G)) : ∃ W', W.le W' ∧ Me W' h G ∧ Bts W' (.slice a l.length c) l := by
  obtain ⟨W', h1, h2, h3⟩ := m.give
  exact ⟨W', h1, h3, o.bts rfl h2⟩
def Omade (W : Wd) (G : List Grp) (l : List Int) (K : Value → Value) (v : Value) (h' : Heap) : Prop := ∃ a c E, v = K (.slice a l.length c) ∧ Me W h' (E :: G) ∧ Ow a l.length c 1 (ints .u8 l) E
theorem qosBytesO_c {W : Wd} {h : Heap} {G : List Grp} {f : Fm} {cs : List Value} (m : Me W h G) (hv : FmV W f cs) (hf : FmOk f) :
    Runs Tryz.prog 40 #[.agg cs.toArray] h (Omade W G (qosB f) fun v => .tuple #[v, .int .i64 0]) := by
  obtain ⟨v, rfl, hb⟩ := hv
  obtain ⟨l1, l2, l3, t0, t7, s0, s1, bl⟩ := hf
  obtain ⟨to, bss, fr, tid, sq, rt, mo, eo, body⟩ := f
  dsimp only at l1 l2 l3 t0 t7 s0 s1 bl hb
  obtain ⟨x1, x2, x3, x4, x5, x6, rfl⟩ := six_of l1
  obtain ⟨y1, y2, y3, y4, y5, y6, rfl⟩ := six_of l2
  obtain ⟨z1, z2, z3, z4, z5, z6, rfl⟩ := six_of l3
  obtain ⟨ab, cb, rfl, hcb, hsb⟩ := hb
  refine vc_muezzinref1_QoSBytes _ _ _ ?_
  intro b1 h1 e1 e2
  replace m := m.push e2 e1
  refine ⟨_, m.cell 0 rfl rfl, rout_in ⟨t0, t7⟩ ⟨_, rfl, bcase_false rfl ?_⟩⟩
  refine ⟨_, m.cell 0 rfl rfl, rout_in ⟨s0, s1⟩ ⟨_, rfl, bcase_false rfl ?_⟩⟩
  refine ⟨_, _, _, m.cell 0 rfl rfl, dcase_neg (by omega) ?_⟩
  refine ⟨_, m.cell 0 rfl rfl, _, m.cell 0 rfl rfl, (rflag_c _ _ _).ret ⟨_, rfl, m.cell 0 rfl rfl, ?_, (rflag_c _ _ _).ret ⟨_, rfl, ?_, ?_, ?_⟩⟩⟩
  · simp only [fits]; split <;> omega
  · simp only [fits]; split <;> split <;> omega
  · simp only [fits]; split <;> split <;> omega
  intro b2 h2 f1 f2
  have m2 := m.push f2 f1
  refine ⟨_, m2.row 1 rfl rfl (Nat.le_of_ble_eq_true rfl), _, m2.row 1 rfl rfl (Nat.le_of_ble_eq_true rfl), _, m2.row 1 rfl rfl (Nat.le_of_ble_eq_true rfl), ?_⟩
  have o2 : Ow (some ⟨b2, 0, none⟩) 4 4 1 (ints .u8 [136, 2 + (if rt then 8 else 0) + (if mo then 32 else 0), 0, 0]) [(b2, ints .u8 [136, 2 + (if rt then 8 else 0) + (if mo then 32 else 0), 0, 0], 5)] := Ow.fresh0 rfl
  refine (raddr_c (xs := [x1, x2, x3, x4, x5, x6]) (bs := [136, 2 + (if rt then 8 else 0) + (if mo then 32 else 0), 0, 0]) o2 m2 rfl (Nat.le_of_ble_eq_true rfl)).mono ?_
  rintro _ h3 ⟨a3, c3, E3, rfl, m3, o3⟩
  refine ⟨_, _, _, rfl, m3.row 1 rfl rfl (Nat.le_of_ble_eq_true rfl), m3.row 1 rfl rfl (Nat.le_of_ble_eq_true rfl), ?_⟩
  refine (raddr_c (xs := [y1, y2, y3, y4, y5, y6]) (bs := [136, 2 + (if rt then 8 else 0) + (if mo then 32 else 0), 0, 0] ++ [x1, x2, x3, x4, x5, x6]) o3 m3 rfl (Nat.le_of_ble_eq_true rfl)).mono ?_
  rintro _ h4 ⟨a4, c4, E4, rfl, m4, o4⟩
  refine ⟨_, _, _, rfl, m4.row 1 rfl rfl (Nat.le_of_ble_eq_true rfl), ?_⟩
  refine (raddr_c (xs := [z1, z2, z3, z4, z5, z6]) (bs := [136, 2 + (if rt then 8 else 0) + (if mo then 32 else 0), 0, 0] ++ [x1, x2, x3, x4, x5, x6] ++ [y1, y2, y3, y4, y5, y6]) o4 m4 rfl (Nat.le_of_ble_eq_true rfl)).mono ?_
  rintro _ h5 ⟨a5, c5, E5, rfl, m5, o5⟩
  refine ⟨_, _, _, rfl, _, m5.cell 1 rfl rfl, by simp only [fits]; omega, ?_⟩
  refine (rtwo_c (bs := [136, 2 + (if rt then 8 else 0) + (if mo then 32 else 0), 0, 0] ++ [x1, x2, x3, x4, x5, x6] ++ [y1, y2, y3, y4, y5, y6] ++ [z1, z2, z3, z4, z5, z6]) (sq * 16) o5 m5 (Nat.le_of_ble_eq_true rfl)).mono ?_
  rintro _ h6 ⟨a6, c6, E6, rfl, m6, o6⟩
  refine ⟨_, _, _, rfl, _, m6.cell 1 rfl rfl, _, m6.cell 1 rfl rfl, (rflag_c _ _ _).ret ⟨_, rfl, m6.cell 1 rfl rfl, ?_, ?_, ?_⟩⟩
  · simp only [fits]; split <;> omega
  · simp only [fits]; split <;> omega
  refine o6.appn m6 rfl (by simp [Value.oneCell']) (Nat.le_of_ble_eq_true rfl) (by decide) fun a7 c7 E7 h7 m7 o7 => ?_
  refine ⟨_, _, _, m7.cell 1 rfl rfl, ints .u8 body, ⟨by rw [Nat.mul_one]; exact m7.wsrc hsb, ints_one⟩, ?_⟩
  refine o7.app m7 0 rfl (by rw [ints_len, Nat.mul_one]) (by simp only [List.length_append, List.length_cons, List.length_nil]; omega) (by decide) fun a8 c8 E8 h8 m8 o8 => ?_
  have o9 : Ow a8 (qosB ⟨[x1, x2, x3, x4, x5, x6], [y1, y2, y3, y4, y5, y6], [z1, z2, z3, z4, z5, z6], tid, sq, rt, mo, eo, body⟩).length c8 1 (ints .u8 (qosB ⟨[x1, x2, x3, x4, x5, x6], [y1, y2, y3, y4, y5, y6], [z1, z2, z3, z4, z5, z6], tid, sq, rt, mo, eo, body⟩)) E8 := by
    have e : (qosB ⟨[x1, x2, x3, x4, x5, x6], [y1, y2, y3, y4, y5, y6], [z1, z2, z3, z4, z5, z6], tid, sq, rt, mo, eo, body⟩).length = 26 + body.length := by simp [qosB]; omega
    rw [e]
    exact o8
  simp only [List.set_cons_zero] at m8
  refine ⟨a8, c8, E8, ?_, (me_swap2 m8).drop1, o9⟩
  have e : (qosB ⟨[x1, x2, x3, x4, x5, x6], [y1, y2, y3, y4, y5, y6], [z1, z2, z3, z4, z5, z6], tid, sq, rt, mo, eo, body⟩).length = 26 + body.length := by simp [qosB]; omega
  rw [e]; rfl
theorem qosBytes_c {W : Wd} {h : Heap} {G : List Grp} {f : Fm} {cs : List Value} (m : Me W h G) (hv : FmV W f cs) (hf : FmOk f) :
    Runs Tryz.prog 40 #[.agg cs.toArray] h (Bmade W G (qosB f) fun v => .tuple #[v, .int .i64 0]) :=
  (qosBytesO_c m hv hf).mono fun v h' ⟨a, c, E, e, m', o⟩ => by
    obtain ⟨W', hl, m9, hb9⟩ := ow_give o m'
    exact ⟨W', a, c, hl, e, m9, hb9⟩
end Go.Proofs.YtepodifionoigaaGreatDoor
