import Derived.Test.YtepodifionoigaaGreatDoorMFrm3
import Derived.Test.YtepodifionoigaaGreatDoorMNum
set_option linter.unusedVariables false
set_option linter.unusedSimpArgs false
set_option maxRecDepth 8000
namespace Go.Proofs.YtepodifionoigaaGreatDoor
open Go.Vc
def mapB (mp : Int) (k : Nat) : List Int := (List.range k).map fun (i : Nat) => mp / pow2 (8 * (i : Int)) % 256
theorem mapB_succ (mp : Int) (k : Nat) : mapB mp (k + 1) = mapB mp k ++ [mp / pow2 (8 * (k : Int)) % 256] := by
  simp [mapB, List.range_succ]
theorem mapB_len (mp : Int) (k : Nat) : (mapB mp k).length = k := by simp [mapB]
def askB (kind : Int) (to fr : List Int) (tid sq : Int) : List Int := ([kind, 0, 0, 0] : List Int) ++ (to ++ (fr ++ [(4 + tid * 4096) % 256, (4 + tid * 4096) / 256 % 256, sq * 16 % 256, sq * 16 / 256 % 256]))
def ackB (to fr : List Int) (tid sq mp : Int) : List Int := askB 148 to fr tid sq ++ mapB mp 8
def ackC (to fr : List Int) (tid sq mp : Int) : List Value := ints .u8 to ++ (ints .u8 fr ++ [.int .i64 tid, .int .i64 sq, .int .u64 mp])
section
variable {W W' : Wd} {h h' : Heap} {G : List Grp} {E : Grp} {a b : Option Addr} {l r c d n k : Nat} {vs us : List Value} {bs xs ys to fr : List Int} {tid sq mp : Int}
theorem askB_len (kind : Int) (h1 : to.length = 6) (h2 : fr.length = 6) : (askB kind to fr tid sq).length = 20 := by simp [askB, h1, h2]
theorem ackB_len (h1 : to.length = 6) (h2 : fr.length = 6) : (ackB to fr tid sq mp).length = 28 := by simp [ackB, askB_len 148 h1 h2, mapB_len]
theorem two_c (z : Int) (m : Me W h G) : Runs Tryz.prog 116 #[.int .i64 z] h fun v h' => ∃ b T, v = .slice (some ⟨b, 0, none⟩) 2 2 ∧ Me W h' ([(b, ints .u8 [z % 256, z / 256 % 256], T)] :: G) := by
  refine vc_ctl_two _ _ _ ⟨by decide, ?_⟩
  rw [wrap8, wrap8]
  intro b1 h1 e1 e2
  exact ⟨b1, _, rfl, m.push e2 e1⟩
theorem me_swap {A B : Grp} (m : Me W h (A :: B :: G)) : Me W h (B :: A :: G) := m.perm (by
  simp only [List.flatten_cons]; rw [← List.append_assoc, ← List.append_assoc]; exact List.perm_append_comm.append_right _)
theorem asks_c (kind : Int) (m : Me W h G) (h1 : to.length = 6) (h2 : fr.length = 6) (ht : 0 ≤ tid ∧ tid ≤ 7) (hs : 0 ≤ sq ∧ sq ≤ 4095) :
    Runs Tryz.prog 105 #[.int .u8 kind, .agg (ints .u8 to).toArray, .agg (ints .u8 fr).toArray, .int .i64 tid, .int .i64 sq] h fun v h' => ∃ a c E, v = .tuple #[.slice a 20 c, .nilIface] ∧ Me W h' (E :: G) ∧ Ow a 20 c 1 (ints .u8 (askB kind to fr tid sq)) E := by
  refine vc_ctl_asks _ _ _ _ _ _ _ ?_
  intro b1 g1 e1 e2 b2 g2 f1 f2
  replace m := (m.push e2 e1).push f2 f1
  refine dcase_neg (by omega) (dcase_neg (by omega) (dcase_neg (by omega) (dcase_neg (by omega) ?_)))
  intro b3 g3 e3 e4
  replace m := m.push e4 e3
  have o3 : Ow (some ⟨b3, 0, none⟩) 4 4 1 (ints .u8 [kind, 0, 0, 0]) [(b3, ints .u8 [kind, 0, 0, 0], 5)] := Ow.fresh0 rfl
  refine ⟨ints .u8 to, ⟨m.row 2 rfl (by rw [List.drop_zero]; exact List.take_of_length_le (by rw [ints_len]; omega)) (by rw [ints_len]; omega), ints_one⟩, ?_⟩
  refine o3.app m 0 rfl (by rw [ints_len]; omega) (by omega) (by decide) fun a4 c4 E4 h4 m o4 => ?_
  simp only [List.set_cons_zero] at m
  refine ⟨ints .u8 fr, ⟨m.row 1 rfl (by rw [List.drop_zero]; exact List.take_of_length_le (by rw [ints_len]; omega)) (by rw [ints_len]; omega), ints_one⟩, ?_⟩
  refine o4.app m 0 rfl (by rw [ints_len]; omega) (by omega) (by decide) fun a5 c5 E5 h5 m o5 => ?_
  simp only [List.set_cons_zero] at m
  refine ⟨by simp only [fits]; omega, by simp only [fits]; omega, ?_⟩
  refine (two_c _ m).mono ?_
  rintro _ h6 ⟨b6, T6, rfl, m⟩
  refine ⟨_, _, _, rfl, ints .u8 [(4 + tid * 4096) % 256, (4 + tid * 4096) / 256 % 256], ⟨m.row 0 rfl rfl (Nat.le_of_ble_eq_true rfl), ints_one⟩, ?_⟩
  refine o5.app m 1 rfl rfl (by omega) (by decide) fun a7 c7 E7 h7 m o7 => ?_
  simp only [List.set_cons_zero, List.set_cons_succ] at m
  refine ⟨by simp only [fits]; omega, ?_⟩
  refine (two_c _ m.drop1).mono ?_
  rintro _ h8 ⟨b8, T8, rfl, m⟩
  refine ⟨_, _, _, rfl, ints .u8 [sq * 16 % 256, sq * 16 / 256 % 256], ⟨m.row 0 rfl rfl (Nat.le_of_ble_eq_true rfl), ints_one⟩, ?_⟩
  refine o7.app m 1 rfl rfl (by omega) (by decide) fun a9 c9 E9 h9 m o9 => ?_
  simp only [List.set_cons_zero, List.set_cons_succ] at m
  refine ⟨a9, c9, E9, rfl, (me_swap (me_swap m.drop1).drop1).drop1, ?_⟩
  have e : ints .u8 [kind, 0, 0, 0] ++ ints .u8 to ++ ints .u8 fr ++ ints .u8 [(4 + tid * 4096) % 256, (4 + tid * 4096) / 256 % 256] ++ ints .u8 [sq * 16 % 256, sq * 16 / 256 % 256] = ints .u8 (askB kind to fr tid sq) := by
    simp [askB, ints]
  rw [← e]; exact o9
theorem shl_bd {k : Nat} (hk : k < 8) : (IntKind.i64.wrap ((8 : Int) * (k : Int))) = 8 * (k : Int) ∧ IntKind.u64.wrap (8 * (k : Int)) = 8 * (k : Int) ∧ IntKind.i64.wrap ((k : Int) + 1) = (k : Int) + 1 :=
  ⟨wrap_fits (by simp only [fits]; omega), wrap_fits (by simp only [fits]; omega), wrap_fits (by simp only [fits]; omega)⟩
theorem ackBytes_c (m : Me W h G) (h1 : to.length = 6) (h2 : fr.length = 6) (ht : 0 ≤ tid ∧ tid ≤ 7) (hs : 0 ≤ sq ∧ sq ≤ 4095) :
    Runs Tryz.prog 79 #[.agg (ackC to fr tid sq mp).toArray] h (Bmade W G (ackB to fr tid sq mp) fun v => .tuple #[v, .nilIface]) := by
  have hL := ackB_len (tid := tid) (sq := sq) (mp := mp) h1 h2
  obtain ⟨x1, x2, x3, x4, x5, x6, rfl⟩ := six_of h1
  obtain ⟨y1, y2, y3, y4, y5, y6, rfl⟩ := six_of h2
  refine vc_ctl_AckBytes _ _ _ ?_
  intro b1 g1 e1 e2
  replace m := m.push e2 e1
  refine ⟨_, m.row 0 rfl rfl (Nat.le_of_ble_eq_true rfl), _, m.row 0 rfl rfl (Nat.le_of_ble_eq_true rfl), _, m.cell 0 rfl rfl, _, m.cell 0 rfl rfl, ?_⟩
  refine (asks_c (to := [x1, x2, x3, x4, x5, x6]) (fr := [y1, y2, y3, y4, y5, y6]) 148 m rfl rfl ht hs).mono ?_
  rintro _ g2 ⟨a2, c2, E2, rfl, m, o2⟩
  refine ⟨_, _, _, _, rfl, true, rfl, bcase_false rfl ?_⟩
  refine ⟨fun a' l' c' i h => ∃ (k : Nat) (E' : Grp), i = k ∧ k ≤ 8 ∧ l' = 20 + k ∧ Me W h (E' :: [(b1, ackC [x1, x2, x3, x4, x5, x6] [y1, y2, y3, y4, y5, y6] tid sq mp, 135)] :: G) ∧ Ow a' l' c' 1 (ints .u8 (askB 148 [x1, x2, x3, x4, x5, x6] [y1, y2, y3, y4, y5, y6] tid sq ++ mapB mp k)) E', fun _ _ _ i _ => (8 - i).toNat, ⟨0, E2, rfl, by omega, rfl, m, by simpa [mapB] using o2⟩, fun _ => ?_⟩
  rintro a' l' c' _ g3 ⟨k, E', rfl, hk, rfl, m, o⟩
  refine dcase_intro (fun q => ?_) fun q => ?_
  · obtain ⟨w1, w2, w3⟩ := shl_bd (show k < 8 by omega)
    rw [w1, w3]
    refine ⟨_, m.cell 1 rfl rfl, ⟨by omega, by simp only [kbits]; omega⟩, ?_⟩
    rw [wrap8]
    refine o.appn m rfl (by simp [Value.oneCell']) (by omega) (by decide) fun a4 c4 E4 g4 m4 o4 => ?_
    refine ⟨⟨k + 1, E4, by omega, by omega, by omega, m4, ?_⟩, by dsimp only; omega⟩
    rw [mapB_succ, ← List.append_assoc, ints_app (l := _ ++ mapB mp k)]
    exact o4
  · obtain rfl : k = 8 := by omega
    have o9 : Ow a' (ackB [x1, x2, x3, x4, x5, x6] [y1, y2, y3, y4, y5, y6] tid sq mp).length c' 1 (ints .u8 (ackB [x1, x2, x3, x4, x5, x6] [y1, y2, y3, y4, y5, y6] tid sq mp)) E' := by rw [hL]; exact o
    obtain ⟨W', hl, m9, hb9⟩ := ow_give o9 m
    exact ⟨W', a', c', hl, by rw [hL], m9.drop1, hb9⟩
theorem rackBytes_c (m : Me W h G) (h1 : to.length = 6) (h2 : fr.length = 6) (ht : 0 ≤ tid ∧ tid ≤ 7) (hs : 0 ≤ sq ∧ sq ≤ 4095) :
    Runs Tryz.prog 90 #[.agg (ackC to fr tid sq mp).toArray] h (Bmade W G (ackB to fr tid sq mp) fun v => .tuple #[v, .int .i64 0]) := by
  have hL := ackB_len (tid := tid) (sq := sq) (mp := mp) h1 h2
  obtain ⟨x1, x2, x3, x4, x5, x6, rfl⟩ := six_of h1
  obtain ⟨y1, y2, y3, y4, y5, y6, rfl⟩ := six_of h2
  refine vc_muezzinref1_AckBytes _ _ _ ?_
  intro b1 g1 e1 e2
  replace m := m.push e2 e1
  refine ⟨_, m.cell 0 rfl rfl, rout_in ⟨ht.1, ht.2⟩ ⟨_, rfl, bcase_false rfl ?_⟩⟩
  refine ⟨_, m.cell 0 rfl rfl, rout_in ⟨hs.1, hs.2⟩ ⟨_, rfl, bcase_false rfl ?_⟩⟩
  refine ⟨_, m.row 0 rfl rfl (Nat.le_of_ble_eq_true rfl), _, m.row 0 rfl rfl (Nat.le_of_ble_eq_true rfl), _, m.cell 0 rfl rfl, _, m.cell 0 rfl rfl, ?_⟩
  intro b2 g2 f1 f2
  have m2 := m.push f2 f1
  have o2 : Ow (some ⟨b2, 0, none⟩) 4 4 1 (ints .u8 [148, 0, 0, 0]) [(b2, ints .u8 [148, 0, 0, 0], 5)] := Ow.fresh0 rfl
  refine (raddr_c (xs := [x1, x2, x3, x4, x5, x6]) (bs := [148, 0, 0, 0]) o2 m2 rfl (Nat.le_of_ble_eq_true rfl)).mono ?_
  rintro _ h3 ⟨a3, c3, E3, rfl, m3, o3⟩
  refine ⟨_, _, _, rfl, m3.cell 1 rfl rfl, m3.cell 1 rfl rfl, m3.row 1 rfl rfl (Nat.le_of_ble_eq_true rfl), ?_⟩
  refine (raddr_c (xs := [y1, y2, y3, y4, y5, y6]) (bs := [148, 0, 0, 0] ++ [x1, x2, x3, x4, x5, x6]) o3 m3 rfl (Nat.le_of_ble_eq_true rfl)).mono ?_
  rintro _ h4 ⟨a4, c4, E4, rfl, m4, o4⟩
  refine ⟨_, _, _, rfl, m4.cell 1 rfl rfl, m4.cell 1 rfl rfl, ?_⟩
  rw [wrap_fits (show fits .i64 (tid * 4096) by simp only [fits]; omega), wrap_fits (show fits .i64 (4 + tid * 4096) by simp only [fits]; omega), wrap_fits (show fits .i64 (sq * 16) by simp only [fits]; omega)]
  refine (rtwo_c (bs := [148, 0, 0, 0] ++ [x1, x2, x3, x4, x5, x6] ++ [y1, y2, y3, y4, y5, y6]) (4 + tid * 4096) o4 m4 (Nat.le_of_ble_eq_true rfl)).mono ?_
  rintro _ h5 ⟨a5, c5, E5, rfl, m5, o5⟩
  refine ⟨_, _, _, rfl, m5.cell 1 rfl rfl, ?_⟩
  refine (rtwo_c (bs := [148, 0, 0, 0] ++ [x1, x2, x3, x4, x5, x6] ++ [y1, y2, y3, y4, y5, y6] ++ [(4 + tid * 4096) % 256, (4 + tid * 4096) / 256 % 256]) (sq * 16) o5 m5 (Nat.le_of_ble_eq_true rfl)).mono ?_
  rintro _ h6 ⟨a6, c6, E6, rfl, m6, o6⟩
  refine ⟨_, _, _, rfl, ?_⟩
  refine ⟨fun a' l' c' i h => ∃ (k : Nat) (E' : Grp), i = k ∧ k ≤ 8 ∧ l' = 20 + k ∧ Me W h (E' :: [(b1, ackC [x1, x2, x3, x4, x5, x6] [y1, y2, y3, y4, y5, y6] tid sq mp, 135)] :: G) ∧ Ow a' l' c' 1 (ints .u8 (askB 148 [x1, x2, x3, x4, x5, x6] [y1, y2, y3, y4, y5, y6] tid sq ++ mapB mp k)) E', fun _ _ _ i _ => (8 - i).toNat, ⟨0, E6, rfl, by omega, rfl, m6, by simpa [mapB, askB] using o6⟩, fun _ => ?_⟩
  rintro a' l' c' _ g3 ⟨k, E', rfl, hk, rfl, m, o⟩
  refine dcase_intro (fun q => ?_) fun q => ?_
  · obtain ⟨w1, w2, w3⟩ := shl_bd (show k < 8 by omega)
    rw [w1, w2, w3]
    refine ⟨_, m.cell 1 rfl rfl, ⟨by omega, by simp only [kbits]; omega⟩, ?_⟩
    rw [wrap8]
    refine o.appn m rfl (by simp [Value.oneCell']) (by omega) (by decide) fun a4 c4 E4 g4 m4 o4 => ?_
    refine ⟨⟨k + 1, E4, by omega, by omega, by omega, m4, ?_⟩, by dsimp only; omega⟩
    rw [mapB_succ, ← List.append_assoc, ints_app (l := _ ++ mapB mp k)]
    exact o4
  · obtain rfl : k = 8 := by omega
    have o9 : Ow a' (ackB [x1, x2, x3, x4, x5, x6] [y1, y2, y3, y4, y5, y6] tid sq mp).length c' 1 (ints .u8 (ackB [x1, x2, x3, x4, x5, x6] [y1, y2, y3, y4, y5, y6] tid sq mp)) E' := by rw [hL]; exact o
    obtain ⟨W', hl, m9, hb9⟩ := ow_give o9 m
    exact ⟨W', a', c', hl, by rw [hL], m9.drop1, hb9⟩
end
end Go.Proofs.YtepodifionoigaaGreatDoor
set_option linter.unusedVariables false
set_option linter.unusedSimpArgs false
set_option maxRecDepth 8000
namespace Go.Proofs.YtepodifionoigaaGreatDoor
open Go.Vc
theorem ackC_one (to fr : List Int) (tid sq mp : Int) : ∀ u ∈ ackC to fr tid sq mp, u.oneCell' = true := by
  intro u hu
  unfold ackC at hu
  simp only [List.mem_append] at hu
  rcases hu with hu | hu | hu
  · exact ints_one u hu
  · exact ints_one u hu
  · simp only [List.mem_cons, List.not_mem_nil, or_false] at hu
    rcases hu with rfl | rfl | rfl <;> rfl
end Go.Proofs.YtepodifionoigaaGreatDoor
set_option linter.unusedVariables false
set_option linter.unusedSimpArgs false
namespace Go.Proofs.YtepodifionoigaaGreatDoor
open Go.Vc
def bitO (a b : Int) : Int := bits .or .u64 a b
structure Ses where
  on : Bool
  start : Int
  size : Int
  fr : Int
  bits : Int
  kept : List Fm
  came : Bool
  last : Int
def ses0 : Ses := ⟨false, 0, 0, 0, 0, [], false, 0⟩
def kfind (l : List Fm) (n : Int) : Option Fm := l.find? fun f => f.sq == n
def kdel (l : List Fm) (n : Int) : List Fm := l.eraseP fun f => f.sq == n
def upP : Nat → List Fm → Int → List Fm × List Fm
  | 0, l, _ => ([], l)
  | d + 1, l, s => if l.length = 0 then ([], l) else match kfind l s with
    | none => upP d l (addZ s 1)
    | some f => (f :: (upP d (kdel l s) (addZ s 1)).1, (upP d (kdel l s) (addZ s 1)).2)
def runP : Nat → List Fm → Int → List Fm × List Fm × Int
  | 0, l, s => ([], l, s)
  | n + 1, l, s => match kfind l s with
    | none => ([], l, s)
    | some f => (f :: (runP n (kdel l s) (addZ s 1)).1, (runP n (kdel l s) (addZ s 1)).2)
def Ses.up (x : Ses) (to : Int) : List Fm × Ses := ((upP (distZ x.start to).toNat x.kept x.start).1, { x with start := to, kept := (upP (distZ x.start to).toNat x.kept x.start).2 })
def Ses.run (x : Ses) : List Fm × Ses := ((runP (x.kept.length + 1) x.kept x.start).1, { x with start := (runP (x.kept.length + 1) x.kept x.start).2.2, kept := (runP (x.kept.length + 1) x.kept x.start).2.1 })
def Ses.move (x : Ses) (n : Int) : Ses := { x with fr := n, bits := if 64 ≤ distZ x.fr n then 0 else x.bits / pow2 (distZ x.fr n) }
def Ses.mark (x : Ses) (n : Int) : Ses := if distZ x.fr n < 64 then { x with bits := bitO x.bits (1 * pow2 (distZ x.fr n)) } else x
def Ses.stand (x : Ses) (n : Int) : Ses := (if 64 ≤ distZ x.fr n ∧ distZ x.fr n < 2048 then x.move (addZ n (-63)) else x).mark n
def Ses.put (x : Ses) (f : Fm) : Ses := if (kfind x.kept f.sq).isSome then x else { x with kept := x.kept ++ [f] }
def Ses.takeOff (x : Ses) (f : Fm) : List Fm × Ses := (if f.rt && (x.came && (x.last == f.sq)) then [] else [f], { x with came := true, last := f.sq })
def Ses.take2 (x : Ses) (f : Fm) : List Fm × Ses :=
  if 2048 ≤ distZ x.start f.sq then ([], x) else
  if x.size ≤ distZ x.start f.sq then ((x.up (addZ f.sq (1 - x.size))).1 ++ (((x.up (addZ f.sq (1 - x.size))).2.put f).run).1, (((x.up (addZ f.sq (1 - x.size))).2.put f).run).2)
  else ((x.put f).run.1, (x.put f).run.2)
def Ses.take (x : Ses) (f : Fm) : List Fm × Ses := if x.on then (x.stand f.sq).take2 f else x.takeOff f
def Ses.ackS (x : Ses) : Int := if x.on then x.fr else x.last
def Ses.ackM (x : Ses) : Int := if x.on then x.bits else 1
structure SesOk (x : Ses) : Prop where
  s : 0 ≤ x.start ∧ x.start ≤ 4095
  f : 0 ≤ x.fr ∧ x.fr ≤ 4095
  l : 0 ≤ x.last ∧ x.last ≤ 4095
  b : 0 ≤ x.bits ∧ x.bits < 18446744073709551616
  z : 0 ≤ x.size ∧ x.size ≤ 64
  k : ∀ f ∈ x.kept, FmOk f
  n : x.kept.length ≤ 4096
theorem ses0_ok : SesOk ses0 := ⟨by decide, by decide, by decide, by decide, by decide, by simp [ses0], by simp [ses0]⟩
theorem takeOff_ok {x : Ses} {f : Fm} (h : SesOk x) (hf : FmOk f) : SesOk (x.takeOff f).2 := ⟨h.s, h.f, ⟨hf.s0, hf.s1⟩, h.b, h.z, h.k, h.n⟩
def meL : List Int := [2, 0, 0, 0, 0, 9]
def bssL : List Int := [2, 0, 0, 0, 1, 0]
end Go.Proofs.YtepodifionoigaaGreatDoor
set_option linter.unusedVariables false
set_option linter.unusedSimpArgs false
namespace Go.Vc
theorem exists_least {P : Nat → Prop} (h : ∃ n, P n) : ∃ n, P n ∧ ∀ k, P k → n ≤ k := by
  obtain ⟨n, hn⟩ := h
  induction n using Nat.strongRecOn with
  | _ n ih =>
    by_cases hx : ∃ k, k < n ∧ P k
    · obtain ⟨k, hk, hp⟩ := hx; exact ih k hk hp
    · exact ⟨n, hn, fun k hp => Nat.le_of_not_lt fun hk => hx ⟨k, hk, hp⟩⟩
open Classical in
noncomputable def lea (P : Nat → Prop) : Nat := if h : ∃ n, P n then Classical.choose (exists_least h) else 0
theorem lea_spec {P : Nat → Prop} (h : ∃ n, P n) : ∃ n, P n ∧ lea P = n := by
  unfold lea
  rw [dif_pos h]
  exact ⟨_, (Classical.choose_spec (exists_least h)).1, rfl⟩
theorem lea_lt {P : Nat → Prop} {n k : Nat} (hp : P k) (hk : k < n) : (∃ n, P n) ∧ lea P < n := by
  refine ⟨⟨k, hp⟩, Nat.lt_of_le_of_lt ?_ hk⟩
  unfold lea
  rw [dif_pos ⟨k, hp⟩]
  exact (Classical.choose_spec (exists_least ⟨k, hp⟩)).2 k hp
theorem lea_next {P P' : Nat → Prop} {n k : Nat} (hn : lea P = n) (hp : P' k) (hk : k < n) : (∃ n, P' n) ∧ lea P' < lea P := hn ▸ lea_lt hp hk
def ck (pre : List Value) (css : List (List Value)) (post : List Value) : List Value := pre ++ (css.flatten ++ post)
section
variable {pre post cs us : List Value} {css : List (List Value)} {n k j o m : Nat} {v : Value}
theorem flat_len (hn : ∀ c ∈ css, c.length = n) : css.flatten.length = css.length * n := by
  induction css with
  | nil => simp
  | cons c r ih => simp [hn c (by simp), ih fun x hx => hn x (by simp [hx]), Nat.add_mul, Nat.add_comm]
theorem flat_drop : ∀ {css : List (List Value)} {k : Nat} {cs : List Value}, (∀ c ∈ css, c.length = n) → css[k]? = some cs → css.flatten.drop (k * n) = cs ++ (css.drop (k + 1)).flatten
  | [], k, cs, _, h => by simp at h
  | c :: r, 0, cs, hn, h => by simp at h; subst h; simp
  | c :: r, k + 1, cs, hn, h => by
    have ih := flat_drop (css := r) (k := k) (cs := cs) (fun x hx => hn x (by simp [hx])) (by simpa using h)
    rw [show (k + 1) * n = c.length + k * n by rw [hn c (by simp), Nat.add_mul]; omega, List.flatten_cons, ← List.drop_drop, List.drop_left, ih]
    simp
theorem ck_len (hn : ∀ c ∈ css, c.length = n) : (ck pre css post).length = pre.length + css.length * n + post.length := by
  simp [ck, flat_len hn]; omega
theorem flat_bound (hk : css[k]? = some cs) : k * n + n ≤ css.length * n := by
  have := (List.getElem?_eq_some_iff.1 hk).1
  rw [← Nat.succ_mul]; exact Nat.mul_le_mul_right _ this
theorem ck_drop (hn : ∀ c ∈ css, c.length = n) (hk : css[k]? = some cs) (ho : o = pre.length + k * n + j) (hj : j ≤ n) : (ck pre css post).drop o = cs.drop j ++ ((css.drop (k + 1)).flatten ++ post) := by
  have hc := hn cs (List.mem_of_getElem? hk)
  have hb := flat_bound (n := n) hk
  have hf := flat_len hn
  subst ho
  unfold ck
  rw [Nat.add_assoc, ← List.drop_drop, List.drop_left, List.drop_append_of_le_length (by omega), ← List.drop_drop, flat_drop hn hk, List.drop_append_of_le_length (by omega)]
  simp
theorem ck_get (hn : ∀ c ∈ css, c.length = n) (hk : css[k]? = some cs) (ho : o = pre.length + k * n + j) (hv : cs[j]? = some v) : (ck pre css post)[o]? = some v := by
  have hc := hn cs (List.mem_of_getElem? hk)
  have hj := (List.getElem?_eq_some_iff.1 hv).1
  have h1 := ck_drop (post := post) hn hk ho (by omega)
  have h2 : ((ck pre css post).drop o)[0]? = some v := by
    rw [h1, List.getElem?_append_left (by simp; omega), List.getElem?_drop]; simpa using hv
  rw [List.getElem?_drop] at h2
  simpa using h2
theorem flat_set_at : ∀ {css : List (List Value)} {k j : Nat} {cs : List Value}, (∀ c ∈ css, c.length = n) → css[k]? = some cs → j < n → css.flatten.set (k * n + j) v = (css.set k (cs.set j v)).flatten
  | [], k, j, cs, _, h, _ => by simp at h
  | c :: r, 0, j, cs, hn, h, hj => by
    simp at h; subst h
    have := hn c (by simp)
    rw [Nat.zero_mul, Nat.zero_add, List.flatten_cons, List.set_append_left _ _ (by omega)]; simp
  | c :: r, k + 1, j, cs, hn, h, hj => by
    have ih := flat_set_at (css := r) (k := k) (j := j) (cs := cs) (fun x hx => hn x (by simp [hx])) (by simpa using h) hj
    have := hn c (by simp)
    rw [show (k + 1) * n + j = c.length + (k * n + j) by rw [this, Nat.add_mul]; omega, List.flatten_cons, List.set_append_right _ _ (by omega), Nat.add_sub_cancel_left, ih]
    simp
theorem ck_set (hn : ∀ c ∈ css, c.length = n) (hk : css[k]? = some cs) (ho : o = pre.length + k * n + j) (hj : j < n) : (ck pre css post).set o v = ck pre (css.set k (cs.set j v)) post := by
  have hb := flat_bound (n := n) hk
  have hf := flat_len hn
  subst ho
  unfold ck
  rw [Nat.add_assoc, List.set_append_right _ _ (by omega), Nat.add_sub_cancel_left, List.set_append_left _ _ (by omega), flat_set_at hn hk hj]
theorem ck_setL : ∀ {us : List Value} {cs : List Value} {css : List (List Value)} {o j : Nat}, (∀ c ∈ css, c.length = n) → css[k]? = some cs → o = pre.length + k * n + j → j + us.length ≤ n →
    setL (ck pre css post) o us = ck pre (css.set k (setL cs j us)) post
  | [], cs, css, o, j, hn, hk, ho, hj => by
    simp only [setL]
    congr 1
    apply List.ext_getElem?
    intro i
    rw [List.getElem?_set]
    split
    · rename_i e; subst e
      have := (List.getElem?_eq_some_iff.1 hk).1
      simp [this, hk]
      exact (List.getElem?_eq_some_iff.1 hk).2
    · rfl
  | u :: us, cs, css, o, j, hn, hk, ho, hj => by
    simp only [setL]
    simp only [List.length_cons] at hj
    have hc := hn cs (List.mem_of_getElem? hk)
    have hkl := (List.getElem?_eq_some_iff.1 hk).1
    rw [ck_set hn hk ho (by omega)]
    rw [ck_setL (us := us) (cs := cs.set j u) (css := css.set k (cs.set j u)) (o := o + 1) (j := j + 1) (fun c hc' => ?_) (by simp [hkl]) (by omega) (by omega)]
    · rw [List.set_set]
    · rcases List.mem_or_eq_of_mem_set hc' with h | rfl
      · exact hn c h
      · simp [hc]
theorem set_all (hn : ∀ c ∈ css, c.length = n) (hc : cs.length = n) : ∀ c ∈ css.set k cs, c.length = n := fun c hm => by
  rcases List.mem_or_eq_of_mem_set hm with h | rfl
  · exact hn c h
  · exact hc
section
variable {W : Wd} {h h' : Heap} {G : List Grp} {b i N : Nat} {T : TypeId}
theorem ckn (hn : ∀ c ∈ css, c.length = n) (hc : cs.length = n) : ∀ c ∈ css.set k cs, c.length = n := set_all hn hc
theorem ckk (hk : k < css.length) : (css.set k cs)[k]? = some cs := by simp [hk]
theorem Me.fget (m : Me W h G) (i : Nat) (hi : G[i]? = some [(b, ck pre (css.set k cs) post, T)]) (hn : ∀ c ∈ css, c.length = n) (hk : k < css.length) (hc : cs.length = n) (j : Nat) (ho : o = pre.length + k * n + j) (hv : cs[j]? = some v) : Go.Vc.cell h b o = some v :=
  m.cell i hi (ck_get (ckn hn hc) (ckk hk) ho hv)
theorem Me.fset (m : Me W h G) (i : Nat) (hi : G[i]? = some [(b, ck pre (css.set k cs) post, T)]) (hn : ∀ c ∈ css, c.length = n) (hk : k < css.length) (hc : cs.length = n) (j : Nat) (ho : o = pre.length + k * n + j) (hj : Nat.ble (j + 1) n = true) {Q : Heap → Prop}
    (q : ∀ h1, Me W h1 (G.set i [(b, ck pre (css.set k (cs.set j v)) post, T)]) → Q h1) : Go.Vc.wr h b o ∧ ∀ h1, h1 = Go.Vc.setc h b o v → Q h1 := by
  have hj := Nat.le_of_ble_eq_true hj
  have h1 := flat_bound (n := n) (ckk (cs := cs) hk)
  refine m.store i hi (by rw [ck_len (ckn hn hc)]; omega) fun h1 m' => q h1 ?_
  rw [ck_set (ckn hn hc) (ckk hk) ho (by omega), List.set_set] at m'
  exact m'
theorem Me.fwrs {l : Nat} (m : Me W h G) (i : Nat) (hi : G[i]? = some [(b, ck pre (css.set k cs) post, T)]) (hn : ∀ c ∈ css, c.length = n) (hk : k < css.length) (hc : cs.length = n) (j : Nat) (ho : o = pre.length + k * n + j) (hj : Nat.ble (j + l) n = true) : Go.Vc.wrs h b o l := by
  have hj := Nat.le_of_ble_eq_true hj
  have h1 := flat_bound (n := n) (ckk (cs := cs) hk)
  exact m.wrs i hi (by rw [ck_len (ckn hn hc)]; omega)
theorem Me.fsetr (m : Me W h G) (i : Nat) (hi : G[i]? = some [(b, ck pre (css.set k cs) post, T)]) (hn : ∀ c ∈ css, c.length = n) (hk : k < css.length) (hc : cs.length = n) (j : Nat) (ho : o = pre.length + k * n + j) (hj : j + us.length ≤ n) (e : h' = Go.Vc.setr h b o us) :
    Me W h' (G.set i [(b, ck pre (css.set k (setL cs j us)) post, T)]) := by
  have m' := m.setr i hi e
  rw [ck_setL (ckn hn hc) (ckk hk) ho hj, List.set_set] at m'
  exact m'
theorem Me.hget (m : Me W h G) (i : Nat) (hi : G[i]? = some [(b, ck pre css post, T)]) (ho : o < pre.length) (hv : pre[o]? = some v) : Go.Vc.cell h b o = some v :=
  m.cell i hi (by unfold ck; rw [List.getElem?_append_left ho]; exact hv)
end
end
end Go.Vc
