/- Sessions' frames: the bytes of an Add, built by act and by the document, read by act.ReadAdd. -/
import Derived.Test.YthlacliefgliiaaDoorRecvFirst
import Derived.Test.YthlacliefgliiaaDoorGenSess
import Derived.Test.YthlacliefgliiaaDoorShelf
set_option linter.unusedVariables false
set_option linter.unusedSimpArgs false
set_option maxRecDepth 8000
namespace Go.Proofs.YthlacliefgliiaaDoor
open Go.Vc
theorem runs_of_calls {P : Program} {f : FuncId} {args : Array Value} {h : Heap} {v : Value} (hc : ∀ w : World, w.heap = h → Calls P f args w fun e w' => e = .returned v ∧ w' = w) :
    Runs P f args h fun u h' => u = v ∧ h' = h :=
  fun w hw => (hc w hw).mono fun e w' ⟨he, hw'⟩ => ⟨v, he, ⟨rfl, by rw [hw', hw]⟩, by rw [hw']; exact Same.refl w⟩
/-- Two bytes of a number. -/
def w2 (n : Int) : List Int := [n % 256, n / 256 % 256]
/-- What all session frames begin with. -/
def headB (what : Int) (to fr bss : List Int) : List Int := ([208, 0, 0, 0] : List Int) ++ (to ++ (fr ++ (bss ++ [0, 0, 3, what])))
/-- An Add that asks; one that answers. -/
def askAdd (to fr bss : List Int) (token tid size sq : Int) : List Int := headB 0 to fr bss ++ ([token] ++ (w2 (2 + tid * 4 + size * 64) ++ (w2 0 ++ w2 (sq * 16))))
def ansAdd (to fr bss : List Int) (token tid size : Int) : List Int := headB 1 to fr bss ++ ([token] ++ (w2 0 ++ (w2 (2 + tid * 4 + size * 64) ++ w2 0)))
/-- An Add's cells. -/
def addC (to fr bss : List Int) (ans : Bool) (token tid size sq : Int) : List Value := ints .u8 to ++ (ints .u8 fr ++ (ints .u8 bss ++ [.bool ans, .int .i64 token, .int .i64 tid, .int .i64 size, .int .i64 0, .int .i64 sq, .int .i64 0]))
def z25 : List Value := addC [0, 0, 0, 0, 0, 0] [0, 0, 0, 0, 0, 0] [0, 0, 0, 0, 0, 0] false 0 0 0 0
theorem addC_one (to fr bss : List Int) (ans : Bool) (token tid size sq : Int) : ∀ u ∈ addC to fr bss ans token tid size sq, u.oneCell' = true := by
  intro u hu
  unfold addC at hu
  simp only [List.mem_append] at hu
  rcases hu with hu | hu | hu | hu
  · exact ints_one u hu
  · exact ints_one u hu
  · exact ints_one u hu
  · simp only [List.mem_cons, List.not_mem_nil, or_false] at hu
    rcases hu with rfl | rfl | rfl | rfl | rfl | rfl | rfl <;> rfl
section
variable {W W' : Wd} {h h' : Heap} {G : List Grp} {E : Grp} {a a2 : Option Addr} {l r c c2 n k : Nat} {vs us : List Value} {bs xs ys to fr bss : List Int} {token tid size sq : Int}
theorem top_in {n m : Int} {h : Heap} {Post : Value → Heap → Prop} (hn : 0 ≤ n ∧ n ≤ m) (k : Post (.bool true) h) : Runs Tryd.prog 85 #[.int .i64 n, .int .i64 m] h Post :=
  vc_act_top _ _ _ _ (dcase_pos hn.1 (by rwa [show decide (n ≤ m) = true from decide_eq_true hn.2]))
theorem atwo_c (z : Int) (m : Me W h G) : Runs Tryd.prog 87 #[.int .i64 z] h fun v h' => ∃ b T, v = .slice (some ⟨b, 0, none⟩) 2 2 ∧ Me W h' ([(b, ints .u8 (w2 z), T)] :: G) := by
  refine vc_act_two _ _ _ ⟨by decide, ?_⟩
  rw [wrap8, wrap8]
  intro b1 h1 e1 e2
  exact ⟨b1, _, rfl, m.push e2 e1⟩
theorem anum_c {x y : Int} (m : Me W h G) (hb : Bts W (.slice a n c) xs) (h0 : xs[0]? = some x) (h1 : xs[1]? = some y) (hx : 0 ≤ x ∧ x < 256) (hy : 0 ≤ y ∧ y < 256) :
    Runs Tryd.prog 75 #[.slice a n c] h fun v h' => v = .int .i64 (x + y * 256) ∧ h' = h := by
  have hl := (List.getElem?_eq_some_iff.1 h1).1
  obtain ⟨b, o, rfl, hn, hc, hcl⟩ := bts_opn hb (by omega)
  refine vc_act_number _ _ _ _ _ ⟨⟨by decide, by omega⟩, x, m.wcell (by simpa using hcl 0 x h0), by simp only [fits]; omega, ⟨by decide, by omega⟩, y, m.wcell (hcl 1 y h1), by simp only [fits]; omega, by decide, by simp only [fits]; omega, ?_, rfl⟩
  rw [or_lo hx hy]
theorem bytesIn {w : World} (hw : w.heap = h) (m : Me W h G) (hb : Bts W (.slice a n c) xs) : Lib.BytesIn w a n xs := by
  intro hn
  obtain ⟨h1, h2, h3⟩ := bts_src hb
  obtain ⟨b, o, rfl, -, -, hx⟩ := bts_opn hb (by omega)
  refine ⟨b, o, rfl, fun i hi => ?_⟩
  have hxi : xs[i]? = some xs[i] := List.getElem?_eq_getElem (by omega)
  rw [cell?_eq, hw, m.wcell (hx i _ hxi), List.getD_eq_getElem?_getD, hxi]; rfl
theorem eqB_c (m : Me W h G) (h1 : Bts W (.slice a n c) xs) (h2 : Bts W (.slice a2 k c2) xs) :
    Runs Tryd.prog 71 #[.slice a n c, .slice a2 k c2] h fun v h' => v = .bool true ∧ h' = h :=
  runs_of_calls fun w hw => by
    have := Tryd.bytes_Equal_all a a2 n c k c2 xs xs w (bts_src h1).2.1 (bts_src h2).2.1 (bytesIn hw m h1) (bytesIn hw m h2)
    rwa [show (Lib.bytesOf xs == Lib.bytesOf xs) = true from beq_self_eq_true _] at this
theorem idx_c {b : Nat} {T : TypeId} {x v : Int} (m : Me W h ([(b, ints .u8 xs, T)] :: G)) (hn : xs.length = n) (hv : Lib.indexByte (Lib.bytesOf xs) x.toNat.toUInt8 = v) :
    Runs Tryd.prog 84 #[.slice (some ⟨b, 0, none⟩) n n, .int .u8 x] h fun u h' => u = .int .i64 v ∧ h' = h :=
  runs_of_calls fun w hw => by
    have := Tryd.bytes_IndexByte b 0 n n xs x w hn fun i hi => by
      have hxi : xs[i]? = some xs[i] := List.getElem?_eq_getElem (by omega)
      rw [cell?_eq, hw, Nat.zero_add, m.cell 0 rfl (ints_get hxi), List.getD_eq_getElem?_getD, hxi]; rfl
    rwa [hv] at this
theorem front_c (what : Int) (m : Me W h G) (h1 : to.length = 6) (h2 : fr.length = 6) (h3 : bss.length = 6) :
    Runs Tryd.prog 86 #[.agg (ints .u8 to).toArray, .agg (ints .u8 fr).toArray, .agg (ints .u8 bss).toArray, .int .u8 what] h fun v h' => ∃ a c E, v = .slice a 26 c ∧ Me W h' (E :: G) ∧ Ow a 26 c 1 (ints .u8 (headB what to fr bss)) E := by
  obtain ⟨x1, x2, x3, x4, x5, x6, rfl⟩ := six_of h1
  obtain ⟨y1, y2, y3, y4, y5, y6, rfl⟩ := six_of h2
  obtain ⟨z1, z2, z3, z4, z5, z6, rfl⟩ := six_of h3
  refine vc_act_front _ _ _ _ _ _ ?_
  intro b1 g1 e1 e2 b2 g2 e3 e4 b3 g3 e5 e6 b4 g4 e7 e8
  replace m := (((m.push e2 e1).push e4 e3).push e6 e5).push e8 e7
  refine ⟨_, m.row 3 rfl rfl (Nat.le_of_ble_eq_true rfl), _, m.row 2 rfl rfl (Nat.le_of_ble_eq_true rfl), _, m.row 1 rfl rfl (Nat.le_of_ble_eq_true rfl), rfl, rfl, rfl, ?_⟩
  intro b5 g5 e9 e10
  replace m := m.push e10 e9
  replace m : Me W g5 ([(b4, ints .u8 [208, 0, 0, 0], 5)] :: [(b5, ints .u8 [x1, x2, x3, x4, x5, x6, y1, y2, y3, y4, y5, y6, z1, z2, z3, z4, z5, z6], 31)] :: G) := by
    have m' := me_swap m
    exact m'.sub ⟨[(b3, ints .u8 [z1, z2, z3, z4, z5, z6], 31)] ++ ([(b2, ints .u8 [y1, y2, y3, y4, y5, y6], 31)] ++ [(b1, ints .u8 [x1, x2, x3, x4, x5, x6], 31)]), by
      simp only [List.flatten_cons, List.append_assoc]
      refine List.Perm.append_left _ (List.Perm.append_left _ ?_)
      have := List.perm_append_comm (l₁ := [(b3, ints .u8 [z1, z2, z3, z4, z5, z6], (31 : TypeId))] ++ ([(b2, ints .u8 [y1, y2, y3, y4, y5, y6], (31 : TypeId))] ++ [(b1, ints .u8 [x1, x2, x3, x4, x5, x6], (31 : TypeId))])) (l₂ := G.flatten)
      simpa only [List.append_assoc] using this⟩
  refine ⟨fun a' l' c' i h => ∃ (k : Nat) (E' : Grp), i = k ∧ k ≤ 3 ∧ l' = 4 + 6 * k ∧ Ow a' (4 + 6 * k) c' 1 (ints .u8 ([208, 0, 0, 0] ++ [x1, x2, x3, x4, x5, x6, y1, y2, y3, y4, y5, y6, z1, z2, z3, z4, z5, z6].take (6 * k))) E' ∧ Me W h (E' :: [(b5, ints .u8 [x1, x2, x3, x4, x5, x6, y1, y2, y3, y4, y5, y6, z1, z2, z3, z4, z5, z6], 31)] :: G), fun _ _ _ i _ => (3 - i).toNat, ⟨0, _, rfl, by omega, rfl, Ow.fresh0 rfl, m⟩, fun _ => ?_⟩
  rintro a' l' c' _ h6 ⟨k, E', rfl, hk, rfl, o', m⟩
  refine dcase_intro (fun q => ?_) fun q => ?_
  · have : k = 0 ∨ k = 1 ∨ k = 2 := by omega
    rcases this with rfl | rfl | rfl
    · skip
      refine ⟨⟨by decide, by decide⟩, ints .u8 [x1, x2, x3, x4, x5, x6], m.row 1 rfl rfl (Nat.le_of_ble_eq_true rfl), ?_⟩
      intro b6 h7 f1 f2
      replace m := m.push f2 f1
      refine ⟨⟨rfl, m.wrsb 0 rfl rfl, ints_one⟩, fun h8 f3 => ?_⟩
      replace m := m.setr 0 rfl f3
      simp only [List.set_cons_zero] at m
      refine ⟨ints .u8 [x1, x2, x3, x4, x5, x6], ⟨m.row 0 rfl rfl (Nat.le_of_ble_eq_true rfl), ints_one⟩, ?_⟩
      refine o'.app m 1 rfl rfl (by omega) (by decide) fun a9 c9 E9 h9 m9 o9 => ?_
      simp only [List.set_cons_zero, List.set_cons_succ] at m9
      exact ⟨by simp only [fits]; omega, ⟨0 + 1, E9, rfl, by decide, rfl, o9, m9.drop1⟩, by dsimp only; omega⟩
    · skip
      refine ⟨⟨by decide, by decide⟩, ints .u8 [y1, y2, y3, y4, y5, y6], m.row 1 rfl rfl (Nat.le_of_ble_eq_true rfl), ?_⟩
      intro b6 h7 f1 f2
      replace m := m.push f2 f1
      refine ⟨⟨rfl, m.wrsb 0 rfl rfl, ints_one⟩, fun h8 f3 => ?_⟩
      replace m := m.setr 0 rfl f3
      simp only [List.set_cons_zero] at m
      refine ⟨ints .u8 [y1, y2, y3, y4, y5, y6], ⟨m.row 0 rfl rfl (Nat.le_of_ble_eq_true rfl), ints_one⟩, ?_⟩
      refine o'.app m 1 rfl rfl (by omega) (by decide) fun a9 c9 E9 h9 m9 o9 => ?_
      simp only [List.set_cons_zero, List.set_cons_succ] at m9
      exact ⟨by simp only [fits]; omega, ⟨1 + 1, E9, rfl, by decide, rfl, o9, m9.drop1⟩, by dsimp only; omega⟩
    · skip
      refine ⟨⟨by decide, by decide⟩, ints .u8 [z1, z2, z3, z4, z5, z6], m.row 1 rfl rfl (Nat.le_of_ble_eq_true rfl), ?_⟩
      intro b6 h7 f1 f2
      replace m := m.push f2 f1
      refine ⟨⟨rfl, m.wrsb 0 rfl rfl, ints_one⟩, fun h8 f3 => ?_⟩
      replace m := m.setr 0 rfl f3
      simp only [List.set_cons_zero] at m
      refine ⟨ints .u8 [z1, z2, z3, z4, z5, z6], ⟨m.row 0 rfl rfl (Nat.le_of_ble_eq_true rfl), ints_one⟩, ?_⟩
      refine o'.app m 1 rfl rfl (by omega) (by decide) fun a9 c9 E9 h9 m9 o9 => ?_
      simp only [List.set_cons_zero, List.set_cons_succ] at m9
      exact ⟨by simp only [fits]; omega, ⟨2 + 1, E9, rfl, by decide, rfl, o9, m9.drop1⟩, by dsimp only; omega⟩
  · obtain rfl : k = 3 := by omega
    refine o'.appn m rfl (by simp [Value.oneCell']) (by omega) (by decide) fun a4 c4 E4 h4 m4 o4 => ?_
    exact ⟨a4, c4, E4, rfl, (me_swap m4).drop1, o4⟩
theorem askAdd_len (h1 : to.length = 6) (h2 : fr.length = 6) (h3 : bss.length = 6) : (askAdd to fr bss token tid size sq).length = 33 := by simp [askAdd, headB, w2, h1, h2, h3]
theorem ansAdd_len (h1 : to.length = 6) (h2 : fr.length = 6) (h3 : bss.length = 6) : (ansAdd to fr bss token tid size).length = 33 := by simp [ansAdd, headB, w2, h1, h2, h3]
/-- What numbers an Add may have. -/
structure AdOk (token tid size sq : Int) : Prop where
  k : 0 ≤ token ∧ token ≤ 255
  t : 0 ≤ tid ∧ tid ≤ 7
  z : 0 ≤ size ∧ size ≤ 1023
  s : 0 ≤ sq ∧ sq ≤ 4095
/-- Two more bytes, of a slice that was made for them. -/
theorem grow2 {Q : Option Addr → Nat → Heap → Prop} {bb : Nat} {T : TypeId} {z : Int} (o : Ow a l c 1 (ints .u8 bs) E) (m : Me W h ([(bb, ints .u8 (w2 z), T)] :: E :: G)) (hl : l ≤ 1048576)
    (q : ∀ a' c' E' h', Me W h' (E' :: G) → Ow a' (l + 2) c' 1 (ints .u8 (bs ++ w2 z)) E' → Q a' c' h') :
    ∃ news : List Value, (src h (some ⟨bb, 0, none⟩) (2 * 1) news ∧ ∀ u ∈ news, u.oneCell' = true) ∧ appK h a l c 2 1 5 1 news Q := by
  refine ⟨ints .u8 (w2 z), ⟨m.row 0 rfl rfl (Nat.le_of_ble_eq_true rfl), ints_one⟩, ?_⟩
  refine o.app m 1 rfl rfl (by omega) (by decide) fun a7 c7 E7 h7 m7 o7 => ?_
  simp only [List.set_cons_zero, List.set_cons_succ] at m7
  exact q a7 c7 E7 h7 m7.drop1 (by rw [ints_app]; exact o7)
theorem addBytesA_c (m : Me W h G) (h1 : to.length = 6) (h2 : fr.length = 6) (h3 : bss.length = 6) (hk : AdOk token tid size sq) (ans : Bool) (hs : ans = true → sq = 0) :
    Runs Tryd.prog 76 #[.agg (addC to fr bss ans token tid size sq).toArray] h (Bmade W G (if ans then ansAdd to fr bss token tid size else askAdd to fr bss token tid size sq) fun v => .tuple #[v, .nilIface]) := by
  have hL1 := ansAdd_len (token := token) (tid := tid) (size := size) h1 h2 h3
  have hL2 := askAdd_len (token := token) (tid := tid) (size := size) (sq := sq) h1 h2 h3
  obtain ⟨x1, x2, x3, x4, x5, x6, rfl⟩ := six_of h1
  obtain ⟨y1, y2, y3, y4, y5, y6, rfl⟩ := six_of h2
  obtain ⟨z1, z2, z3, z4, z5, z6, rfl⟩ := six_of h3
  obtain ⟨k1, k2, k3, k4⟩ := hk
  refine vc_act_AddBytes _ _ _ ?_
  intro b1 g1 e1 e2
  replace m := m.push e2 e1
  refine ⟨_, m.cell 0 rfl rfl, top_in ⟨k1.1, k1.2⟩ ⟨_, rfl, bcase_false rfl ?_⟩⟩
  refine ⟨_, m.cell 0 rfl rfl, top_in ⟨k2.1, k2.2⟩ ⟨_, rfl, bcase_false rfl ?_⟩⟩
  refine ⟨_, m.cell 0 rfl rfl, top_in ⟨k3.1, k3.2⟩ ⟨_, rfl, bcase_false rfl ?_⟩⟩
  refine ⟨_, m.cell 0 rfl rfl, top_in (by decide) ⟨_, rfl, bcase_false rfl ?_⟩⟩
  refine ⟨_, m.cell 0 rfl rfl, top_in (by decide) ⟨_, rfl, bcase_false rfl ?_⟩⟩
  refine ⟨_, m.cell 0 rfl rfl, top_in ⟨k4.1, k4.2⟩ ⟨_, rfl, bcase_false rfl ?_⟩⟩
  refine ⟨ans, m.cell 0 rfl rfl, ?_⟩
  cases ans with
  | false =>
    refine bcase_true rfl ⟨0, m.cell 0 rfl rfl, bcase_false rfl ⟨false, m.cell 0 rfl rfl, bcase_false rfl ?_⟩⟩
    refine ⟨fun n h => n = 0 ∧ h = g1, ⟨rfl, rfl⟩, fun _ => ?_⟩
    rintro _ g1 ⟨rfl, rfl⟩
    refine ⟨fun n h => n = 0 ∧ h = g1, ⟨false, m.cell 0 rfl rfl, ⟨rfl, rfl⟩⟩, fun _ => ?_⟩
    rintro _ g1 ⟨rfl, rfl⟩
    refine ⟨_, m.row 0 rfl rfl (Nat.le_of_ble_eq_true rfl), _, m.row 0 rfl rfl (Nat.le_of_ble_eq_true rfl), _, m.row 0 rfl rfl (Nat.le_of_ble_eq_true rfl), token, m.cell 0 rfl rfl, by simp only [fits]; omega, ?_, ?_⟩
    · skip
      refine (front_c (to := [x1, x2, x3, x4, x5, x6]) (fr := [y1, y2, y3, y4, y5, y6]) (bss := [z1, z2, z3, z4, z5, z6]) _ m rfl rfl rfl).mono ?_
      rintro _ g2 ⟨a2, c2, E2, rfl, m, o2⟩
      refine ⟨_, _, _, rfl, m.cell 1 rfl rfl, ?_⟩
      refine o2.appn m (us := ints .u8 [token]) rfl ints_one (by omega) (by decide) fun a3 c3 E3 g3 m o3 => ?_
      rw [← ints_app] at o3
      refine ⟨m.cell 1 rfl rfl, ?_⟩
      refine ⟨fun a' l' c' h => a' = a3 ∧ l' = 27 ∧ c' = c3 ∧ h = g3, ⟨false, m.cell 1 rfl rfl, ⟨rfl, rfl, rfl, rfl⟩⟩, fun _ => ?_⟩
      rintro _ _ _ g3 ⟨rfl, rfl, rfl, rfl⟩
      refine ⟨tid, m.cell 1 rfl rfl, by simp only [fits]; omega, by simp only [fits]; omega, size, m.cell 1 rfl rfl, by simp only [fits]; omega, by simp only [fits]; omega, ?_⟩
      refine (atwo_c _ m).mono ?_
      rintro _ g4 ⟨b4, T4, rfl, m⟩
      refine ⟨_, _, _, rfl, ?_⟩
      refine grow2 o3 m (by omega) fun a5 c5 E5 g5 m o5 => ?_
      refine ⟨0, m.cell 1 rfl rfl, ?_⟩
      refine (atwo_c _ m).mono ?_
      rintro _ g6 ⟨b6, T6, rfl, m⟩
      refine ⟨_, _, _, rfl, ?_⟩
      refine grow2 o5 m (by omega) fun a7 c7 E7 g7 m o7 => ?_
      refine ⟨false, m.cell 1 rfl rfl, ⟨sq, m.cell 1 rfl rfl, by simp only [fits]; omega, ?_⟩⟩
      refine (atwo_c _ m).mono ?_
      rintro _ g8 ⟨b8, T8, rfl, m⟩
      refine ⟨_, _, _, rfl, ?_⟩
      refine grow2 o7 m (by omega) fun a9 c9 E9 g9 m o9 => ?_
      have e9 : headB 0 [x1, x2, x3, x4, x5, x6] [y1, y2, y3, y4, y5, y6] [z1, z2, z3, z4, z5, z6] ++ [token] ++ w2 (2 + tid * 4 + size * 64) ++ w2 0 ++ w2 (sq * 16) = askAdd [x1, x2, x3, x4, x5, x6] [y1, y2, y3, y4, y5, y6] [z1, z2, z3, z4, z5, z6] token tid size sq := by simp only [askAdd, List.append_assoc]
      rw [e9] at o9
      have o10 : Ow a9 (askAdd [x1, x2, x3, x4, x5, x6] [y1, y2, y3, y4, y5, y6] [z1, z2, z3, z4, z5, z6] token tid size sq).length c9 1 (ints .u8 (askAdd [x1, x2, x3, x4, x5, x6] [y1, y2, y3, y4, y5, y6] [z1, z2, z3, z4, z5, z6] token tid size sq)) E9 := by rw [hL2]; exact o9
      obtain ⟨W', hl, m10, hb10⟩ := ow_give o10 m
      exact ⟨W', a9, c9, hl, by rw [if_neg (by decide), hL2], m10.drop1, hb10⟩
    · skip
      intro b3 g22 f1 f2
      replace m := m.push f2 f1
      refine (front_c (to := [x1, x2, x3, x4, x5, x6]) (fr := [y1, y2, y3, y4, y5, y6]) (bss := [z1, z2, z3, z4, z5, z6]) _ m rfl rfl rfl).mono ?_
      rintro _ g2 ⟨a2, c2, E2, rfl, m, o2⟩
      refine ⟨_, _, _, rfl, m.cell 2 rfl rfl, ints .u8 [token], ⟨m.row 1 rfl rfl (Nat.le_of_ble_eq_true rfl), ints_one⟩, ?_⟩
      refine o2.app m 0 rfl rfl (by omega) (by decide) fun a3 c3 E3 g3 m o3 => ?_
      simp only [List.set_cons_zero] at m
      replace m := (me_swap m).drop1
      rw [← ints_app] at o3
      refine ⟨m.cell 1 rfl rfl, ?_⟩
      refine ⟨fun a' l' c' h => a' = a3 ∧ l' = 27 ∧ c' = c3 ∧ h = g3, ⟨false, m.cell 1 rfl rfl, ⟨rfl, rfl, rfl, rfl⟩⟩, fun _ => ?_⟩
      rintro _ _ _ g3 ⟨rfl, rfl, rfl, rfl⟩
      refine ⟨tid, m.cell 1 rfl rfl, by simp only [fits]; omega, by simp only [fits]; omega, size, m.cell 1 rfl rfl, by simp only [fits]; omega, by simp only [fits]; omega, ?_⟩
      refine (atwo_c _ m).mono ?_
      rintro _ g4 ⟨b4, T4, rfl, m⟩
      refine ⟨_, _, _, rfl, ?_⟩
      refine grow2 o3 m (by omega) fun a5 c5 E5 g5 m o5 => ?_
      refine ⟨0, m.cell 1 rfl rfl, ?_⟩
      refine (atwo_c _ m).mono ?_
      rintro _ g6 ⟨b6, T6, rfl, m⟩
      refine ⟨_, _, _, rfl, ?_⟩
      refine grow2 o5 m (by omega) fun a7 c7 E7 g7 m o7 => ?_
      refine ⟨false, m.cell 1 rfl rfl, ⟨sq, m.cell 1 rfl rfl, by simp only [fits]; omega, ?_⟩⟩
      refine (atwo_c _ m).mono ?_
      rintro _ g8 ⟨b8, T8, rfl, m⟩
      refine ⟨_, _, _, rfl, ?_⟩
      refine grow2 o7 m (by omega) fun a9 c9 E9 g9 m o9 => ?_
      have e9 : headB 0 [x1, x2, x3, x4, x5, x6] [y1, y2, y3, y4, y5, y6] [z1, z2, z3, z4, z5, z6] ++ [token] ++ w2 (2 + tid * 4 + size * 64) ++ w2 0 ++ w2 (sq * 16) = askAdd [x1, x2, x3, x4, x5, x6] [y1, y2, y3, y4, y5, y6] [z1, z2, z3, z4, z5, z6] token tid size sq := by simp only [askAdd, List.append_assoc]
      rw [e9] at o9
      have o10 : Ow a9 (askAdd [x1, x2, x3, x4, x5, x6] [y1, y2, y3, y4, y5, y6] [z1, z2, z3, z4, z5, z6] token tid size sq).length c9 1 (ints .u8 (askAdd [x1, x2, x3, x4, x5, x6] [y1, y2, y3, y4, y5, y6] [z1, z2, z3, z4, z5, z6] token tid size sq)) E9 := by rw [hL2]; exact o9
      obtain ⟨W', hl, m10, hb10⟩ := ow_give o10 m
      exact ⟨W', a9, c9, hl, by rw [if_neg (by decide), hL2], m10.drop1, hb10⟩
  | true =>
    obtain rfl := hs rfl
    refine bcase_false rfl ⟨true, m.cell 0 rfl rfl, bcase_true rfl ⟨0, m.cell 0 rfl rfl, bcase_false rfl ?_⟩⟩
    refine ⟨fun n h => n = 0 ∧ h = g1, ⟨rfl, rfl⟩, fun _ => ?_⟩
    rintro _ g1 ⟨rfl, rfl⟩
    refine ⟨fun n h => n = 1 ∧ h = g1, ⟨true, m.cell 0 rfl rfl, ⟨rfl, rfl⟩⟩, fun _ => ?_⟩
    rintro _ g1 ⟨rfl, rfl⟩
    refine ⟨_, m.row 0 rfl rfl (Nat.le_of_ble_eq_true rfl), _, m.row 0 rfl rfl (Nat.le_of_ble_eq_true rfl), _, m.row 0 rfl rfl (Nat.le_of_ble_eq_true rfl), token, m.cell 0 rfl rfl, by simp only [fits]; omega, ?_, ?_⟩
    · skip
      refine (front_c (to := [x1, x2, x3, x4, x5, x6]) (fr := [y1, y2, y3, y4, y5, y6]) (bss := [z1, z2, z3, z4, z5, z6]) _ m rfl rfl rfl).mono ?_
      rintro _ g2 ⟨a2, c2, E2, rfl, m, o2⟩
      refine ⟨_, _, _, rfl, m.cell 1 rfl rfl, ?_⟩
      refine o2.appn m (us := ints .u8 [token]) rfl ints_one (by omega) (by decide) fun a3 c3 E3 g3 m o3 => ?_
      rw [← ints_app] at o3
      refine ⟨m.cell 1 rfl rfl, ?_⟩
      refine ⟨fun a' l' c' h => l' = 29 ∧ ∃ E', Me W h (E' :: [(b1, addC [x1, x2, x3, x4, x5, x6] [y1, y2, y3, y4, y5, y6] [z1, z2, z3, z4, z5, z6] true token tid size 0, 65)] :: G) ∧ Ow a' 29 c' 1 (ints .u8 (headB 1 [x1, x2, x3, x4, x5, x6] [y1, y2, y3, y4, y5, y6] [z1, z2, z3, z4, z5, z6] ++ [token] ++ w2 0)) E', ?_, fun _ => ?_⟩
      · refine ⟨true, m.cell 1 rfl rfl, ⟨0, m.cell 1 rfl rfl, ?_⟩⟩
        refine (atwo_c _ m).mono ?_
        rintro _ g8 ⟨b8, T8, rfl, m⟩
        refine ⟨_, _, _, rfl, ?_⟩
        refine grow2 o3 m (by omega) fun a9 c9 E9 g9 m o9 => ?_
        exact ⟨rfl, E9, m, o9⟩
      rintro a3 _ c3 g3 ⟨rfl, E3, m, o3⟩
      refine ⟨tid, m.cell 1 rfl rfl, by simp only [fits]; omega, by simp only [fits]; omega, size, m.cell 1 rfl rfl, by simp only [fits]; omega, by simp only [fits]; omega, ?_⟩
      refine (atwo_c _ m).mono ?_
      rintro _ g4 ⟨b4, T4, rfl, m⟩
      refine ⟨_, _, _, rfl, ?_⟩
      refine grow2 o3 m (by omega) fun a5 c5 E5 g5 m o5 => ?_
      refine ⟨0, m.cell 1 rfl rfl, ?_⟩
      refine (atwo_c _ m).mono ?_
      rintro _ g6 ⟨b6, T6, rfl, m⟩
      refine ⟨_, _, _, rfl, ?_⟩
      refine grow2 o5 m (by omega) fun a7 c7 E7 g7 m o7 => ?_
      refine ⟨true, m.cell 1 rfl rfl, ?_⟩
      have e9 : headB 1 [x1, x2, x3, x4, x5, x6] [y1, y2, y3, y4, y5, y6] [z1, z2, z3, z4, z5, z6] ++ [token] ++ w2 0 ++ w2 (2 + tid * 4 + size * 64) ++ w2 0 = ansAdd [x1, x2, x3, x4, x5, x6] [y1, y2, y3, y4, y5, y6] [z1, z2, z3, z4, z5, z6] token tid size := by simp only [ansAdd, List.append_assoc]
      rw [e9] at o7
      have o10 : Ow a7 (ansAdd [x1, x2, x3, x4, x5, x6] [y1, y2, y3, y4, y5, y6] [z1, z2, z3, z4, z5, z6] token tid size).length c7 1 (ints .u8 (ansAdd [x1, x2, x3, x4, x5, x6] [y1, y2, y3, y4, y5, y6] [z1, z2, z3, z4, z5, z6] token tid size)) E7 := by rw [hL1]; exact o7
      obtain ⟨W', hl, m10, hb10⟩ := ow_give o10 m
      exact ⟨W', a7, c7, hl, by rw [if_pos rfl, hL1], m10.drop1, hb10⟩
    · skip
      intro b3 g22 f1 f2
      replace m := m.push f2 f1
      refine (front_c (to := [x1, x2, x3, x4, x5, x6]) (fr := [y1, y2, y3, y4, y5, y6]) (bss := [z1, z2, z3, z4, z5, z6]) _ m rfl rfl rfl).mono ?_
      rintro _ g2 ⟨a2, c2, E2, rfl, m, o2⟩
      refine ⟨_, _, _, rfl, m.cell 2 rfl rfl, ints .u8 [token], ⟨m.row 1 rfl rfl (Nat.le_of_ble_eq_true rfl), ints_one⟩, ?_⟩
      refine o2.app m 0 rfl rfl (by omega) (by decide) fun a3 c3 E3 g3 m o3 => ?_
      simp only [List.set_cons_zero] at m
      replace m := (me_swap m).drop1
      rw [← ints_app] at o3
      refine ⟨m.cell 1 rfl rfl, ?_⟩
      refine ⟨fun a' l' c' h => l' = 29 ∧ ∃ E', Me W h (E' :: [(b1, addC [x1, x2, x3, x4, x5, x6] [y1, y2, y3, y4, y5, y6] [z1, z2, z3, z4, z5, z6] true token tid size 0, 65)] :: G) ∧ Ow a' 29 c' 1 (ints .u8 (headB 1 [x1, x2, x3, x4, x5, x6] [y1, y2, y3, y4, y5, y6] [z1, z2, z3, z4, z5, z6] ++ [token] ++ w2 0)) E', ?_, fun _ => ?_⟩
      · refine ⟨true, m.cell 1 rfl rfl, ⟨0, m.cell 1 rfl rfl, ?_⟩⟩
        refine (atwo_c _ m).mono ?_
        rintro _ g8 ⟨b8, T8, rfl, m⟩
        refine ⟨_, _, _, rfl, ?_⟩
        refine grow2 o3 m (by omega) fun a9 c9 E9 g9 m o9 => ?_
        exact ⟨rfl, E9, m, o9⟩
      rintro a3 _ c3 g3 ⟨rfl, E3, m, o3⟩
      refine ⟨tid, m.cell 1 rfl rfl, by simp only [fits]; omega, by simp only [fits]; omega, size, m.cell 1 rfl rfl, by simp only [fits]; omega, by simp only [fits]; omega, ?_⟩
      refine (atwo_c _ m).mono ?_
      rintro _ g4 ⟨b4, T4, rfl, m⟩
      refine ⟨_, _, _, rfl, ?_⟩
      refine grow2 o3 m (by omega) fun a5 c5 E5 g5 m o5 => ?_
      refine ⟨0, m.cell 1 rfl rfl, ?_⟩
      refine (atwo_c _ m).mono ?_
      rintro _ g6 ⟨b6, T6, rfl, m⟩
      refine ⟨_, _, _, rfl, ?_⟩
      refine grow2 o5 m (by omega) fun a7 c7 E7 g7 m o7 => ?_
      refine ⟨true, m.cell 1 rfl rfl, ?_⟩
      have e9 : headB 1 [x1, x2, x3, x4, x5, x6] [y1, y2, y3, y4, y5, y6] [z1, z2, z3, z4, z5, z6] ++ [token] ++ w2 0 ++ w2 (2 + tid * 4 + size * 64) ++ w2 0 = ansAdd [x1, x2, x3, x4, x5, x6] [y1, y2, y3, y4, y5, y6] [z1, z2, z3, z4, z5, z6] token tid size := by simp only [ansAdd, List.append_assoc]
      rw [e9] at o7
      have o10 : Ow a7 (ansAdd [x1, x2, x3, x4, x5, x6] [y1, y2, y3, y4, y5, y6] [z1, z2, z3, z4, z5, z6] token tid size).length c7 1 (ints .u8 (ansAdd [x1, x2, x3, x4, x5, x6] [y1, y2, y3, y4, y5, y6] [z1, z2, z3, z4, z5, z6] token tid size)) E7 := by rw [hL1]; exact o7
      obtain ⟨W', hl, m10, hb10⟩ := ow_give o10 m
      exact ⟨W', a7, c7, hl, by rw [if_pos rfl, hL1], m10.drop1, hb10⟩
end
end Go.Proofs.YthlacliefgliiaaDoor
