import Derived.Shelf.Bytes.SlEqualAll
import Derived.Shelf.Bytes.Small
import Derived.Shelf.Bytes.IndexByte
import Derived.Test.YtepodifionoigaaGreatDoorProg
import Derived.Test.YtepodifionoigaaGreatDoorMRecv3
import Derived.Test.YtepodifionoigaaGreatDoorGenAll1
/-
  DERIVED: THE SHELF's CONTRACTS AT THIS DUMP, IN PLAIN WORDS (tools/lay-plain.mjs out of 'TryzShelf.lean', which tools/lay-shelf.mjs wrote): THE SAME DECLARATIONS UNDER THE SAME NAMES: 'import', 'namespace', 'open', 'def', 'theorem' AND NOTHING ELSE: no command of the shelf's: FOR A HAND-IN. Each laying: the table of numbers ('.._ren') and one theorem, a field a fact of the dump's own or the kernel's comparison; each contract: ONE APPLICATION.
-/
set_option linter.unusedVariables false
set_option linter.unusedSimpArgs false
namespace Go.Proofs
open Go.Shelf
def Tryz.laysnb115_ren : Go.Shelf.Ren := ⟨fun | 115 => 94 | n => n, fun | 37 => 36 | 4 => 4 | 9 => 9 | 5 => 5 | n => n, fun | n => n⟩
theorem Tryz.laysnb115 : Go.Proofs.Lays.nb115 Tryz.prog Tryz.laysnb115_ren := {
  mixed := by kernel_rfl
  f115 := Tryz.func94.trans (congrArg some (by kernel_rfl))
  t4 := Tryz.underlying4
  a4 := Tryz.isAgg4
  z4 := Tryz.sizeOf4
  v4 := Tryz.zeroValue4
  t9 := Tryz.underlying9
  a9 := Tryz.isAgg9
  z9 := Tryz.sizeOf9
  v9 := Tryz.zeroValue9
  t37 := Tryz.underlying36
  a37 := Tryz.isAgg36
  z37 := Tryz.sizeOf36
  v37 := Tryz.zeroValue36
  t5 := Tryz.underlying5
  a5 := Tryz.isAgg5
  z5 := Tryz.sizeOf5
  v5 := Tryz.zeroValue5 }
theorem Tryz.bytes_Equal_all (p1 p2 : Option Addr) (n c m d : Nat) (xs ys : List Int) (w : World) (hx : xs.length = n) (hy : ys.length = m) (h1 : Lib.BytesIn w p1 n xs) (h2 : Lib.BytesIn w p2 m ys) :
    Calls Tryz.prog 94 #[.slice p1 n c, .slice p2 m d] w fun e w' => e = .returned (.bool (Lib.bytesOf xs == Lib.bytesOf ys)) ∧ w' = w := Any.bytes_Equal_all Tryz.laysnb115 p1 p2 n c m d xs ys w hx hy h1 h2
def Tryz.lays187_ren : Go.Shelf.Ren := ⟨fun | 187 => 111 | 255 => 119 | n => n, fun | 37 => 36 | 5 => 5 | 3 => 3 | n => n, fun | n => n⟩
theorem Tryz.lays187 : Go.Proofs.Lays.n187 Tryz.prog Tryz.lays187_ren := {
  mixed := by kernel_rfl
  f187 := Tryz.func111.trans (congrArg some (by kernel_rfl))
  f255 := Tryz.func119.trans (congrArg some (by kernel_rfl))
  t3 := Tryz.underlying3
  a3 := Tryz.isAgg3
  z3 := Tryz.sizeOf3
  v3 := Tryz.zeroValue3
  t5 := Tryz.underlying5
  a5 := Tryz.isAgg5
  z5 := Tryz.sizeOf5
  v5 := Tryz.zeroValue5
  t37 := Tryz.underlying36
  a37 := Tryz.isAgg36
  z37 := Tryz.sizeOf36
  v37 := Tryz.zeroValue36 }
theorem Tryz.bytes_IndexByte (b o n c : Nat) (xs : List Int) (cv : Int) (w : World) (hx : xs.length = n) (hc : ∀ i, i < n → w.cell? ⟨b, o + i, none⟩ = some (.int .u8 (xs.getD i 0))) :
    Calls Tryz.prog 111 #[.slice (some ⟨b, o, none⟩) n c, .int .u8 cv] w fun e w' => e = .returned (.int .i64 (Lib.indexByte (Lib.bytesOf xs) cv.toNat.toUInt8)) ∧ w' = w := Any.bytes_IndexByte Tryz.lays187 b o n c xs cv w hx hc
end Go.Proofs
set_option linter.unusedVariables false
set_option linter.unusedSimpArgs false
set_option maxRecDepth 8000
namespace Go.Proofs.YtepodifionoigaaGreatDoor
open Go.Vc
theorem runs_of_calls {P : Program} {f : FuncId} {args : Array Value} {h : Heap} {v : Value} (hc : ∀ w : World, w.heap = h → Calls P f args w fun e w' => e = .returned v ∧ w' = w) :
    Runs P f args h fun u h' => u = v ∧ h' = h :=
  fun w hw => (hc w hw).mono fun e w' ⟨he, hw'⟩ => ⟨v, he, ⟨rfl, by rw [hw', hw]⟩, by rw [hw']; exact Same.refl w⟩
def w2 (n : Int) : List Int := [n % 256, n / 256 % 256]
def headB (what : Int) (to fr bss : List Int) : List Int := ([208, 0, 0, 0] : List Int) ++ (to ++ (fr ++ (bss ++ [0, 0, 3, what])))
def addC (to fr bss : List Int) (ans : Bool) (token tid size sq : Int) : List Value := ints .u8 to ++ (ints .u8 fr ++ (ints .u8 bss ++ [.bool ans, .int .i64 token, .int .i64 tid, .int .i64 size, .int .i64 0, .int .i64 sq, .int .i64 0]))
def z25 : List Value := addC [0, 0, 0, 0, 0, 0] [0, 0, 0, 0, 0, 0] [0, 0, 0, 0, 0, 0] false 0 0 0 0
section
variable {W W' : Wd} {h h' : Heap} {G : List Grp} {E : Grp} {a a2 : Option Addr} {l r c c2 n k : Nat} {vs us : List Value} {bs xs ys to fr bss : List Int} {token tid size sq : Int}
theorem top_in {n m : Int} {h : Heap} {Post : Value → Heap → Prop} (hn : 0 ≤ n ∧ n ≤ m) (k : Post (.bool true) h) : Runs Tryz.prog 112 #[.int .i64 n, .int .i64 m] h Post :=
  vc_act_top _ _ _ _ (dcase_pos hn.1 (by rwa [show decide (n ≤ m) = true from decide_eq_true hn.2]))
theorem atwo_c (z : Int) (m : Me W h G) : Runs Tryz.prog 114 #[.int .i64 z] h fun v h' => ∃ b T, v = .slice (some ⟨b, 0, none⟩) 2 2 ∧ Me W h' ([(b, ints .u8 (w2 z), T)] :: G) := by
  refine vc_act_two _ _ _ ⟨by decide, ?_⟩
  rw [wrap8, wrap8]
  intro b1 h1 e1 e2
  exact ⟨b1, _, rfl, m.push e2 e1⟩
theorem anum_c {x y : Int} (m : Me W h G) (hb : Bts W (.slice a n c) xs) (h0 : xs[0]? = some x) (h1 : xs[1]? = some y) (hx : 0 ≤ x ∧ x < 256) (hy : 0 ≤ y ∧ y < 256) :
    Runs Tryz.prog 98 #[.slice a n c] h fun v h' => v = .int .i64 (x + y * 256) ∧ h' = h := by
  have hl := (List.getElem?_eq_some_iff.1 h1).1
  obtain ⟨b, o, rfl, hn, hc, hcl⟩ := bts_opn hb (by omega)
  refine vc_act_number _ _ _ _ _ ⟨⟨by decide, by omega⟩, x, m.wcell (by simpa using hcl 0 x h0), by simp only [fits]; omega, ⟨by decide, by omega⟩, y, m.wcell (hcl 1 y h1), by simp only [fits]; omega, by decide, by simp only [fits]; omega, ?_, rfl⟩
  rw [or_lo hx hy]
theorem bytesIn {w : World} (hw : w.heap = h) (m : Me W h G) (hb : Bts W (.slice a n c) xs) : Lib.BytesIn w a n xs := by
  intro hn
  obtain ⟨h1, h2, h3⟩ := bts_src hb
  obtain ⟨b, o, rfl, -, -, hx⟩ := bts_opn hb (by omega)
  refine ⟨b, o, rfl, fun i hi => ?_⟩
  have hxi : xs[i]? = some xs[i] := List.getElem?_eq_getElem (by omega)
  rw [cell?_eq, hw, m.wcell (hx i _ hxi), List.getD_eq_getElem?_getD, hxi]; rfl
theorem eqB_c (m : Me W h G) (h1 : Bts W (.slice a n c) xs) (h2 : Bts W (.slice a2 k c2) xs) :
    Runs Tryz.prog 94 #[.slice a n c, .slice a2 k c2] h fun v h' => v = .bool true ∧ h' = h :=
  runs_of_calls fun w hw => by
    have := Tryz.bytes_Equal_all a a2 n c k c2 xs xs w (bts_src h1).2.1 (bts_src h2).2.1 (bytesIn hw m h1) (bytesIn hw m h2)
    rwa [show (Lib.bytesOf xs == Lib.bytesOf xs) = true from beq_self_eq_true _] at this
theorem idx_c {b : Nat} {T : TypeId} {x v : Int} (m : Me W h ([(b, ints .u8 xs, T)] :: G)) (hn : xs.length = n) (hv : Lib.indexByte (Lib.bytesOf xs) x.toNat.toUInt8 = v) :
    Runs Tryz.prog 111 #[.slice (some ⟨b, 0, none⟩) n n, .int .u8 x] h fun u h' => u = .int .i64 v ∧ h' = h :=
  runs_of_calls fun w hw => by
    have := Tryz.bytes_IndexByte b 0 n n xs x w hn fun i hi => by
      have hxi : xs[i]? = some xs[i] := List.getElem?_eq_getElem (by omega)
      rw [cell?_eq, hw, Nat.zero_add, m.cell 0 rfl (ints_get hxi), List.getD_eq_getElem?_getD, hxi]; rfl
    rwa [hv] at this
theorem front_c (what : Int) (m : Me W h G) (h1 : to.length = 6) (h2 : fr.length = 6) (h3 : bss.length = 6) :
    Runs Tryz.prog 113 #[.agg (ints .u8 to).toArray, .agg (ints .u8 fr).toArray, .agg (ints .u8 bss).toArray, .int .u8 what] h fun v h' => ∃ a c E, v = .slice a 26 c ∧ Me W h' (E :: G) ∧ Ow a 26 c 1 (ints .u8 (headB what to fr bss)) E := by
  obtain ⟨x1, x2, x3, x4, x5, x6, rfl⟩ := six_of h1
  obtain ⟨y1, y2, y3, y4, y5, y6, rfl⟩ := six_of h2
  obtain ⟨z1, z2, z3, z4, z5, z6, rfl⟩ := six_of h3
  refine vc_act_front _ _ _ _ _ _ ?_
  intro b1 g1 e1 e2 b2 g2 e3 e4 b3 g3 e5 e6 b4 g4 e7 e8
  replace m := (((m.push e2 e1).push e4 e3).push e6 e5).push e8 e7
  refine ⟨_, m.row 3 rfl rfl (Nat.le_of_ble_eq_true rfl), _, m.row 2 rfl rfl (Nat.le_of_ble_eq_true rfl), _, m.row 1 rfl rfl (Nat.le_of_ble_eq_true rfl), rfl, rfl, rfl, ?_⟩
  intro b5 g5 e9 e10
  replace m := m.push e10 e9
  replace m : Me W g5 ([(b4, ints .u8 [208, 0, 0, 0], 5)] :: [(b5, ints .u8 [x1, x2, x3, x4, x5, x6, y1, y2, y3, y4, y5, y6, z1, z2, z3, z4, z5, z6], 30)] :: G) := by
    have m' := me_swap m
    exact m'.sub ⟨[(b3, ints .u8 [z1, z2, z3, z4, z5, z6], 30)] ++ ([(b2, ints .u8 [y1, y2, y3, y4, y5, y6], 30)] ++ [(b1, ints .u8 [x1, x2, x3, x4, x5, x6], 30)]), by
      simp only [List.flatten_cons, List.append_assoc]
      refine List.Perm.append_left _ (List.Perm.append_left _ ?_)
      have := List.perm_append_comm (l₁ := [(b3, ints .u8 [z1, z2, z3, z4, z5, z6], (30 : TypeId))] ++ ([(b2, ints .u8 [y1, y2, y3, y4, y5, y6], (30 : TypeId))] ++ [(b1, ints .u8 [x1, x2, x3, x4, x5, x6], (30 : TypeId))])) (l₂ := G.flatten)
      simpa only [List.append_assoc] using this⟩
  refine ⟨fun a' l' c' i h => ∃ (k : Nat) (E' : Grp), i = k ∧ k ≤ 3 ∧ l' = 4 + 6 * k ∧ Ow a' (4 + 6 * k) c' 1 (ints .u8 ([208, 0, 0, 0] ++ [x1, x2, x3, x4, x5, x6, y1, y2, y3, y4, y5, y6, z1, z2, z3, z4, z5, z6].take (6 * k))) E' ∧ Me W h (E' :: [(b5, ints .u8 [x1, x2, x3, x4, x5, x6, y1, y2, y3, y4, y5, y6, z1, z2, z3, z4, z5, z6], 30)] :: G), fun _ _ _ i _ => (3 - i).toNat, ⟨0, _, rfl, by omega, rfl, Ow.fresh0 rfl, m⟩, fun _ => ?_⟩
  rintro a' l' c' _ h6 ⟨k, E', rfl, hk, rfl, o', m⟩
  refine dcase_intro (fun q => ?_) fun q => ?_
  · have : k = 0 ∨ k = 1 ∨ k = 2 := by omega
    rcases this with rfl | rfl | rfl
    · skip
      refine ⟨⟨by decide, by decide⟩, ints .u8 [x1, x2, x3, x4, x5, x6], m.row 1 rfl rfl (Nat.le_of_ble_eq_true rfl), ?_⟩
      intro b6 h7 f1 f2
      replace m := m.push f2 f1
      refine ⟨⟨rfl, m.wrsb 0 rfl rfl, ints_one⟩, fun h8 f3 => ?_⟩
      replace m := m.setr 0 rfl f3
      simp only [List.set_cons_zero] at m
      refine ⟨ints .u8 [x1, x2, x3, x4, x5, x6], ⟨m.row 0 rfl rfl (Nat.le_of_ble_eq_true rfl), ints_one⟩, ?_⟩
      refine o'.app m 1 rfl rfl (by omega) (by decide) fun a9 c9 E9 h9 m9 o9 => ?_
      simp only [List.set_cons_zero, List.set_cons_succ] at m9
      exact ⟨by simp only [fits]; omega, ⟨0 + 1, E9, rfl, by decide, rfl, o9, m9.drop1⟩, by dsimp only; omega⟩
    · skip
      refine ⟨⟨by decide, by decide⟩, ints .u8 [y1, y2, y3, y4, y5, y6], m.row 1 rfl rfl (Nat.le_of_ble_eq_true rfl), ?_⟩
      intro b6 h7 f1 f2
      replace m := m.push f2 f1
      refine ⟨⟨rfl, m.wrsb 0 rfl rfl, ints_one⟩, fun h8 f3 => ?_⟩
      replace m := m.setr 0 rfl f3
      simp only [List.set_cons_zero] at m
      refine ⟨ints .u8 [y1, y2, y3, y4, y5, y6], ⟨m.row 0 rfl rfl (Nat.le_of_ble_eq_true rfl), ints_one⟩, ?_⟩
      refine o'.app m 1 rfl rfl (by omega) (by decide) fun a9 c9 E9 h9 m9 o9 => ?_
      simp only [List.set_cons_zero, List.set_cons_succ] at m9
      exact ⟨by simp only [fits]; omega, ⟨1 + 1, E9, rfl, by decide, rfl, o9, m9.drop1⟩, by dsimp only; omega⟩
    · skip
      refine ⟨⟨by decide, by decide⟩, ints .u8 [z1, z2, z3, z4, z5, z6], m.row 1 rfl rfl (Nat.le_of_ble_eq_true rfl), ?_⟩
      intro b6 h7 f1 f2
      replace m := m.push f2 f1
      refine ⟨⟨rfl, m.wrsb 0 rfl rfl, ints_one⟩, fun h8 f3 => ?_⟩
      replace m := m.setr 0 rfl f3
      simp only [List.set_cons_zero] at m
      refine ⟨ints .u8 [z1, z2, z3, z4, z5, z6], ⟨m.row 0 rfl rfl (Nat.le_of_ble_eq_true rfl), ints_one⟩, ?_⟩
      refine o'.app m 1 rfl rfl (by omega) (by decide) fun a9 c9 E9 h9 m9 o9 => ?_
      simp only [List.set_cons_zero, List.set_cons_succ] at m9
      exact ⟨by simp only [fits]; omega, ⟨2 + 1, E9, rfl, by decide, rfl, o9, m9.drop1⟩, by dsimp only; omega⟩
  · obtain rfl : k = 3 := by omega
    refine o'.appn m rfl (by simp [Value.oneCell']) (by omega) (by decide) fun a4 c4 E4 h4 m4 o4 => ?_
    exact ⟨a4, c4, E4, rfl, (me_swap m4).drop1, o4⟩
structure AdOk (token tid size sq : Int) : Prop where
  k : 0 ≤ token ∧ token ≤ 255
  t : 0 ≤ tid ∧ tid ≤ 7
  z : 0 ≤ size ∧ size ≤ 1023
  s : 0 ≤ sq ∧ sq ≤ 4095
theorem grow2 {Q : Option Addr → Nat → Heap → Prop} {bb : Nat} {T : TypeId} {z : Int} (o : Ow a l c 1 (ints .u8 bs) E) (m : Me W h ([(bb, ints .u8 (w2 z), T)] :: E :: G)) (hl : l ≤ 1048576)
    (q : ∀ a' c' E' h', Me W h' (E' :: G) → Ow a' (l + 2) c' 1 (ints .u8 (bs ++ w2 z)) E' → Q a' c' h') :
    ∃ news : List Value, (src h (some ⟨bb, 0, none⟩) (2 * 1) news ∧ ∀ u ∈ news, u.oneCell' = true) ∧ appK h a l c 2 1 5 1 news Q := by
  refine ⟨ints .u8 (w2 z), ⟨m.row 0 rfl rfl (Nat.le_of_ble_eq_true rfl), ints_one⟩, ?_⟩
  refine o.app m 1 rfl rfl (by omega) (by decide) fun a7 c7 E7 h7 m7 o7 => ?_
  simp only [List.set_cons_zero, List.set_cons_succ] at m7
  exact q a7 c7 E7 h7 m7.drop1 (by rw [ints_app]; exact o7)
end
end Go.Proofs.YtepodifionoigaaGreatDoor
set_option linter.unusedVariables false
set_option linter.unusedSimpArgs false
set_option maxRecDepth 8000
namespace Go.Proofs.YtepodifionoigaaGreatDoor
open Go.Vc
section
variable {W W' : Wd} {h h' : Heap} {G : List Grp} {E : Grp} {a a2 : Option Addr} {l r c c2 n k : Nat} {vs us : List Value} {bs xs ys to fr bss : List Int} {token tid size sq : Int}
theorem rhead_c (m : Me W h G) (h1 : to.length = 6) (h2 : fr.length = 6) (h3 : bss.length = 6) :
    Runs Tryz.prog 50 #[.agg (ints .u8 to).toArray, .agg (ints .u8 fr).toArray, .agg (ints .u8 bss).toArray] h (Grew W G ([208, 0, 0, 0] ++ to ++ fr ++ bss) [0, 0, 3]) := by
  obtain ⟨x1, x2, x3, x4, x5, x6, rfl⟩ := six_of h1
  obtain ⟨y1, y2, y3, y4, y5, y6, rfl⟩ := six_of h2
  obtain ⟨z1, z2, z3, z4, z5, z6, rfl⟩ := six_of h3
  refine vc_muezzinref1_head _ _ _ _ _ ?_
  intro b1 g1 e1 e2 b2 g2 e3 e4 b3 g3 e5 e6
  replace m := ((m.push e2 e1).push e4 e3).push e6 e5
  refine ⟨_, m.row 2 rfl rfl (Nat.le_of_ble_eq_true rfl), _, m.row 1 rfl rfl (Nat.le_of_ble_eq_true rfl), _, m.row 0 rfl rfl (Nat.le_of_ble_eq_true rfl), ?_⟩
  intro b4 g4 e7 e8
  have m4 := m.push e8 e7
  have o4 : Ow (some ⟨b4, 0, none⟩) 4 4 1 (ints .u8 [208, 0, 0, 0]) [(b4, ints .u8 [208, 0, 0, 0], 5)] := Ow.fresh0 rfl
  refine (raddr_c (xs := [x1, x2, x3, x4, x5, x6]) (bs := [208, 0, 0, 0]) o4 m4 rfl (Nat.le_of_ble_eq_true rfl)).mono ?_
  rintro _ g5 ⟨a5, c5, E5, rfl, m5, o5⟩
  refine ⟨_, _, _, rfl, m5.row 1 rfl rfl (Nat.le_of_ble_eq_true rfl), m5.row 2 rfl rfl (Nat.le_of_ble_eq_true rfl), ?_⟩
  refine (raddr_c (xs := [y1, y2, y3, y4, y5, y6]) (bs := [208, 0, 0, 0] ++ [x1, x2, x3, x4, x5, x6]) o5 m5 rfl (Nat.le_of_ble_eq_true rfl)).mono ?_
  rintro _ g6 ⟨a6, c6, E6, rfl, m6, o6⟩
  refine ⟨_, _, _, rfl, m6.row 1 rfl rfl (Nat.le_of_ble_eq_true rfl), ?_⟩
  refine (raddr_c (xs := [z1, z2, z3, z4, z5, z6]) (bs := [208, 0, 0, 0] ++ [x1, x2, x3, x4, x5, x6] ++ [y1, y2, y3, y4, y5, y6]) o6 m6 rfl (Nat.le_of_ble_eq_true rfl)).mono ?_
  rintro _ g7 ⟨a7, c7, E7, rfl, m7, o7⟩
  refine ⟨_, _, _, rfl, ?_⟩
  refine o7.appn m7 (us := ints .u8 [0, 0, 3]) rfl ints_one (Nat.le_of_ble_eq_true rfl) (by decide) fun a8 c8 E8 g8 m8 o8 => ?_
  exact ⟨a8, c8, E8, rfl, (me_swap (me_swap (me_swap m8).drop1).drop1).drop1, by rw [ints_app]; exact o8⟩
def adrA (x y z : List Int) (k : Nat) : List Value :=
  ints .u8 (match k with | 0 => [0, 0, 0, 0, 0, 0] | _ => x) ++ (ints .u8 (match k with | 0 => [0, 0, 0, 0, 0, 0] | 1 => [0, 0, 0, 0, 0, 0] | _ => y) ++ (ints .u8 (match k with | 3 => z | _ => [0, 0, 0, 0, 0, 0])))
theorem addrs_c {x1 x2 x3 x4 x5 x6 y1 y2 y3 y4 y5 y6 z1 z2 z3 z4 z5 z6 q1 q2 q3 q4 : Int} (m : Me W h G) (hb : Bts W (.slice a n c) (q1 :: q2 :: q3 :: q4 :: x1 :: x2 :: x3 :: x4 :: x5 :: x6 :: y1 :: y2 :: y3 :: y4 :: y5 :: y6 :: z1 :: z2 :: z3 :: z4 :: z5 :: z6 :: xs)) :
    Runs Tryz.prog 97 #[.slice a n c] h fun v h' => v = .tuple #[.agg (ints .u8 [x1, x2, x3, x4, x5, x6]).toArray, .agg (ints .u8 [y1, y2, y3, y4, y5, y6]).toArray, .agg (ints .u8 [z1, z2, z3, z4, z5, z6]).toArray] ∧ Me W h' G := by
  obtain ⟨-, hn, -⟩ := bts_src hb
  simp only [List.length_cons] at hn
  obtain ⟨ha4, -, -⟩ := bts_src (bts_tail hb (k := 4) (by omega))
  obtain ⟨ha10, -, -⟩ := bts_src (bts_tail hb (k := 10) (by omega))
  obtain ⟨ha16, -, -⟩ := bts_src (bts_tail hb (k := 16) (by omega))
  replace ha4 : wsrc W (slcAddr a 4 c 4) 6 (ints .u8 [x1, x2, x3, x4, x5, x6]) := wsrc_take (j := 6) ha4 (by omega) (by rw [ints_len, List.length_drop]; simp only [List.length_cons]; omega)
  replace ha10 : wsrc W (slcAddr a 10 c 10) 6 (ints .u8 [y1, y2, y3, y4, y5, y6]) := wsrc_take (j := 6) ha10 (by omega) (by rw [ints_len, List.length_drop]; simp only [List.length_cons]; omega)
  replace ha16 : wsrc W (slcAddr a 16 c 16) 6 (ints .u8 [z1, z2, z3, z4, z5, z6]) := wsrc_take (j := 6) ha16 (by omega) (by rw [ints_len, List.length_drop]; simp only [List.length_cons]; omega)
  refine vc_act_addrs _ _ _ _ _ ?_
  intro b1 g1 e1 e2 b2 g2 e3 e4 b3 g3 e5 e6 b4 g4 e7 e8
  replace m := (((m.push e2 e1).push e4 e3).push e6 e5).push e8 e7
  refine ⟨fun i h => ∃ k : Nat, i = k ∧ k ≤ 3 ∧ Me W h ([(b4, adrA [x1, x2, x3, x4, x5, x6] [y1, y2, y3, y4, y5, y6] [z1, z2, z3, z4, z5, z6] k, 168)] :: [(b3, ints .u8 [0, 0, 0, 0, 0, 0], 30)] :: [(b2, ints .u8 [0, 0, 0, 0, 0, 0], 30)] :: [(b1, ints .u8 [0, 0, 0, 0, 0, 0], 30)] :: G), fun i _ => (3 - i).toNat, ⟨0, rfl, by omega, m⟩, fun _ => ?_⟩
  rintro _ g5 ⟨k, rfl, hk, m⟩
  refine dcase_intro (fun q => ?_) fun q => ?_
  · have : k = 0 ∨ k = 1 ∨ k = 2 := by omega
    rcases this with rfl | rfl | rfl
    · skip
      refine ⟨⟨by decide, by decide⟩, by simp only [fits]; omega, by simp only [fits]; omega, ⟨by decide, by omega⟩, _, ⟨m.wsrc (rd6 ha4 (by omega)), ints_one⟩, m.wrsb 0 rfl rfl, fun h13 g6 => ?_⟩
      have m13 := m.setr 0 rfl g6
      exact ⟨by simp only [fits]; omega, ⟨0 + 1, rfl, by decide, m13⟩, by dsimp only; omega⟩
    · skip
      refine ⟨⟨by decide, by decide⟩, by simp only [fits]; omega, by simp only [fits]; omega, ⟨by decide, by omega⟩, _, ⟨m.wsrc (rd6 ha10 (by omega)), ints_one⟩, m.wrsb 0 rfl rfl, fun h13 g6 => ?_⟩
      have m13 := m.setr 0 rfl g6
      exact ⟨by simp only [fits]; omega, ⟨1 + 1, rfl, by decide, m13⟩, by dsimp only; omega⟩
    · skip
      refine ⟨⟨by decide, by decide⟩, by simp only [fits]; omega, by simp only [fits]; omega, ⟨by decide, by omega⟩, _, ⟨m.wsrc (rd6 ha16 (by omega)), ints_one⟩, m.wrsb 0 rfl rfl, fun h13 g6 => ?_⟩
      have m13 := m.setr 0 rfl g6
      exact ⟨by simp only [fits]; omega, ⟨2 + 1, rfl, by decide, m13⟩, by dsimp only; omega⟩
  · obtain rfl : k = 3 := by omega
    refine ⟨by decide, _, m.row 0 rfl rfl (Nat.le_of_ble_eq_true rfl), by decide, _, m.row 0 rfl rfl (Nat.le_of_ble_eq_true rfl), by decide, _, m.row 0 rfl rfl (Nat.le_of_ble_eq_true rfl), ?_⟩
    refine ⟨⟨rfl, m.wrsb 3 rfl rfl, ints_one (k := .u8) (l := [x1, x2, x3, x4, x5, x6])⟩, fun h7 f1 => ?_⟩
    have m7 := m.setr 3 rfl f1
    simp only [List.set_cons_zero, List.set_cons_succ] at m7
    refine ⟨m7.row 0 rfl rfl (Nat.le_of_ble_eq_true rfl), m7.row 0 rfl rfl (Nat.le_of_ble_eq_true rfl), ⟨rfl, m7.wrsb 2 rfl rfl, ints_one (k := .u8) (l := [y1, y2, y3, y4, y5, y6])⟩, fun h8 f2 => ?_⟩
    have m8 := m7.setr 2 rfl f2
    simp only [List.set_cons_zero, List.set_cons_succ] at m8
    refine ⟨m8.row 0 rfl rfl (Nat.le_of_ble_eq_true rfl), ⟨rfl, m8.wrsb 1 rfl rfl, ints_one (k := .u8) (l := [z1, z2, z3, z4, z5, z6])⟩, fun h9 f3 => ?_⟩
    have m9 := m8.setr 1 rfl f3
    simp only [List.set_cons_zero, List.set_cons_succ] at m9
    exact ⟨_, m9.row 3 rfl rfl (Nat.le_of_ble_eq_true rfl), _, m9.row 2 rfl rfl (Nat.le_of_ble_eq_true rfl), _, m9.row 1 rfl rfl (Nat.le_of_ble_eq_true rfl), rfl, m9.drop1.drop1.drop1.drop1⟩
def z14 : List Value := ints .u8 [0, 0, 0, 0, 0, 0, 0, 0, 0, 0, 0, 0] ++ [.int .i64 0, .int .i64 0]
theorem z14_one : ∀ u ∈ z14, u.oneCell' = true := by
  intro u hu
  simp only [z14, List.mem_append] at hu
  rcases hu with hu | hu
  · exact ints_one u hu
  · simp only [List.mem_cons, List.not_mem_nil, or_false] at hu
    rcases hu with rfl | rfl <;> rfl
end
end Go.Proofs.YtepodifionoigaaGreatDoor
