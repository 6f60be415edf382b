/- Packets: as records, as cells; what muezzinref does with them and with lists. -/
import Derived.Test.YtpcilleldanfmaaDoorSl
set_option linter.unusedVariables false
set_option linter.unusedSimpArgs false
namespace Go.Proofs.YtpcilleldanfmaaDoor
open Go.Vc

structure Pk where
  id : Int
  flow : Int
  tid : Int
  at_ : Int
  body : List Int
deriving DecidableEq
def PkV (W : Wd) (p : Pk) (cs : List Value) : Prop := ∃ a c, cs = [.int .i64 p.id, .int .u32 p.flow, .int .i64 p.tid, .int .i64 p.at_, .slice a p.body.length c] ∧ Bts W (.slice a p.body.length c) p.body
def pk0 : Pk := ⟨0, 0, 0, 0, []⟩
section
variable {W W' : Wd} {h h' : Heap} {G : List Grp} {p q : Pk} {cs ds vs us : List Value} {ps qs : List Pk} {a b : Option Addr} {l r c d : Nat} {xs ys : List Int} {x : Int}
theorem PkV.len (hp : PkV W p cs) : cs.length = 5 := by obtain ⟨a, c, rfl, _⟩ := hp; rfl
theorem PkV.one (hp : PkV W p cs) : ∀ u ∈ cs, u.oneCell' = true := by obtain ⟨a, c, rfl, _⟩ := hp; simp [Value.oneCell']
theorem PkV.le (hl : W.le W') (hp : PkV W p cs) : PkV W' p cs := by obtain ⟨a, c, e, hb⟩ := hp; exact ⟨a, c, e, hb.le hl⟩
theorem PkV.zero : PkV W pk0 [.int .i64 0, .int .u32 0, .int .i64 0, .int .i64 0, .slice none 0 0] := ⟨none, 0, rfl, Bts.nil⟩
theorem _root_.Go.Vc.Bts.src (hb : Bts (Wd.of h) (.slice a l c) xs) : src h a l (ints .u8 xs) ∧ xs.length = l := by
  obtain ⟨a', c', e, h1, h2⟩ := hb
  cases e
  exact ⟨of_src.1 h2, rfl⟩
theorem sameBytes_c (ha : src h a l (ints .u8 xs)) (hla : xs.length = l) (hb : src h b r (ints .u8 ys)) (hlb : ys.length = r) (hl : l ≤ 4611686018427387904) :
    Runs Tryd.prog 50 #[.slice a l c, .slice b r d] h fun v h' => v = .bool (decide (xs = ys)) ∧ h' = h := by
  refine vc_muezzinref_SameBytes _ _ _ _ _ _ _ _ ?_
  refine bcase_intro (fun q => ⟨?_, rfl⟩) fun q => ?_
  · have : xs ≠ ys := fun e => by subst e; simp at q; omega
    simp [this]
  have hlr : l = r := by simp at q; omega
  subst hlr
  refine ⟨fun i h' => h' = h ∧ ∃ k : Nat, i = k ∧ k ≤ l ∧ xs.take k = ys.take k, fun i _ => ((l : Int) - i).toNat, ⟨rfl, 0, rfl, by omega, rfl⟩, fun _ => ?_⟩
  rintro _ h1 ⟨rfl, k, rfl, hk, hn⟩
  refine dcase_intro (fun q => ?_) fun q => ?_
  · obtain ⟨x, hx⟩ : ∃ y, xs[k]? = some y := ⟨_, List.getElem?_eq_getElem (by omega)⟩
    obtain ⟨y, hy⟩ : ∃ y, ys[k]? = some y := ⟨_, List.getElem?_eq_getElem (by omega)⟩
    obtain ⟨b1, o1, rfl, hc⟩ := src_cell ha (ints_get (k := .u8) hx)
    obtain ⟨b2, o2, rfl, hd⟩ := src_cell hb (ints_get (k := .u8) hy)
    refine ⟨⟨by omega, by omega⟩, x, by simpa using hc, ⟨by omega, by omega⟩, y, by simpa using hd, bcase_intro (fun q1 => ⟨?_, rfl⟩) fun q1 => ⟨by simp only [fits]; omega, ⟨rfl, k + 1, by omega, by omega, ?_⟩, by dsimp only; omega⟩⟩
    · have : xs ≠ ys := fun e => by subst e; rw [hx] at hy; cases hy; simp at q1
      simp [this]
    · rw [List.take_add_one, List.take_add_one, hx, hy, hn]
      simp at q1
      rw [q1]
  · obtain rfl : k = l := by omega
    rw [List.take_of_length_le (by omega), List.take_of_length_le (by omega)] at hn
    exact ⟨by simp [hn], rfl⟩
theorem samePacket_c (hp : PkV (Wd.of h) p cs) (hq : PkV (Wd.of h) q ds) (hl : p.body.length ≤ 1099511627776) :
    Runs Tryd.prog 23 #[.agg cs.toArray, .agg ds.toArray] h fun v h' => v = .bool (decide (p = q)) ∧ Kept h h' := by
  obtain ⟨a, c, rfl, hbp⟩ := hp
  obtain ⟨b, d, rfl, hbq⟩ := hq
  refine vc_muezzinref_SamePacket _ _ _ _ ?_
  intro b1 h1 e1 e2 b2 h2 e3 e4
  have m := ((Me.start h).push e2 e1).push e4 e3
  clear e1 e2 e3 e4
  have k := m.kept (Wd.le.refl _)
  have no : ∀ {P : Prop} [Decidable P], ¬ P → Value.bool false = .bool (decide P) := fun h => by simp [h]
  obtain ⟨id1, flow1, tid1, at1, body1⟩ := p
  obtain ⟨id2, flow2, tid2, at2, body2⟩ := q
  simp only [Pk.mk.injEq] at *
  refine ⟨_, m.cell 1 rfl rfl, _, m.cell 0 rfl rfl, dcase_intro (fun q1 => ?_) fun q1 => ⟨no fun e => q1 e.1, k⟩⟩
  refine ⟨_, m.cell 1 rfl rfl, _, m.cell 0 rfl rfl, dcase_intro (fun q2 => ?_) fun q2 => ⟨no fun e => q2 e.2.1, k⟩⟩
  refine ⟨_, m.cell 1 rfl rfl, _, m.cell 0 rfl rfl, dcase_intro (fun q3 => ?_) fun q3 => ⟨no fun e => q3 e.2.2.1, k⟩⟩
  refine ⟨_, m.cell 1 rfl rfl, _, m.cell 0 rfl rfl, dcase_intro (fun q4 => ?_) fun q4 => ⟨no fun e => q4 e.2.2.2.1, k⟩⟩
  refine ⟨_, _, _, m.cell 1 rfl rfl, _, _, _, m.cell 0 rfl rfl, ?_⟩
  obtain ⟨ha, hla⟩ := (hbp.le k.le).src
  obtain ⟨hb, hlb⟩ := (hbq.le k.le).src
  refine (sameBytes_c ha hla hb hlb (by omega)).ret ⟨_, rfl, ?_, k⟩
  subst q1 q2 q3 q4
  simp
theorem samePackets_c (ha : src h a (l * 5) vs) (hps : Sq (PkV (Wd.of h)) ps vs) (hla : ps.length = l) (hb : src h b (r * 5) us) (hqs : Sq (PkV (Wd.of h)) qs us) (hlb : qs.length = r) (hl : l ≤ 1099511627776) (hlen : ∀ p ∈ ps, p.body.length ≤ 1099511627776) :
    Runs Tryd.prog 21 #[.slice a l c, .slice b r d] h fun v h' => v = .bool (decide (ps = qs)) ∧ Kept h h' := by
  refine vc_muezzinref_SamePackets _ _ _ _ _ _ _ _ ?_
  refine bcase_intro (fun q => ⟨?_, Kept.refl _⟩) fun q => ?_
  · have : ps ≠ qs := fun e => by subst e; simp at q; omega
    simp [this]
  have hlr : l = r := by simp at q; omega
  subst hlr
  refine ⟨fun i h' => Kept h h' ∧ ∃ k : Nat, i = k ∧ k ≤ l ∧ ps.take k = qs.take k, fun i _ => ((l : Int) - i).toNat, ⟨Kept.refl _, 0, rfl, by omega, rfl⟩, fun _ => ?_⟩
  rintro _ h1 ⟨kk, k, rfl, hk, hn⟩
  refine dcase_intro (fun q => ?_) fun q => ?_
  · obtain ⟨x, hx⟩ : ∃ y, ps[k]? = some y := ⟨_, List.getElem?_eq_getElem (by omega)⟩
    obtain ⟨y, hy⟩ : ∃ y, qs[k]? = some y := ⟨_, List.getElem?_eq_getElem (by omega)⟩
    obtain ⟨cs1, hcs1, e1, l1⟩ := hps.get (fun _ _ => PkV.len) hx
    obtain ⟨cs2, hcs2, e2, l2⟩ := hqs.get (fun _ _ => PkV.len) hy
    obtain ⟨b1, o1, rfl, hc⟩ := src_part (kk.src ha) l1 (by decide) e1
    obtain ⟨b2, o2, rfl, hd⟩ := src_part (kk.src hb) l2 (by decide) e2
    refine ⟨⟨by omega, by omega⟩, _, hc, ⟨by omega, by omega⟩, _, hd, (samePacket_c (hcs1.le kk.le) (hcs2.le kk.le) (hlen x (List.mem_of_getElem? hx))).mono ?_⟩
    rintro _ h2 ⟨rfl, k2⟩
    refine ⟨_, rfl, bcase_intro (fun q1 => ⟨?_, kk.trans k2⟩) fun q1 => ⟨by simp only [fits]; omega, ⟨kk.trans k2, k + 1, by omega, by omega, ?_⟩, by dsimp only; omega⟩⟩
    · have : ps ≠ qs := fun e => by subst e; rw [hx] at hy; cases hy; simp at q1
      simp [this]
    · rw [List.take_add_one, List.take_add_one, hx, hy, hn]
      simp at q1
      rw [q1]
  · obtain rfl : k = l := by omega
    rw [List.take_of_length_le (by omega), List.take_of_length_le (by omega)] at hn
    exact ⟨by simp [hn], kk⟩
theorem joinL_rep (n : Nat) (z : List Value) : (joinL (List.replicate n z)).length = n * z.length := by
  induction n with
  | zero => simp [joinL]
  | succ n ih => simp [List.replicate_succ, joinL, ih, Nat.add_mul, Nat.add_comm]
theorem take_snoc {α : Type} {xs : List α} {k : Nat} {x : α} (hx : xs[k]? = some x) : xs.take k ++ [x] = xs.take (k + 1) := by
  rw [List.take_add_one, hx]; rfl
theorem take_rows {vs : List Value} {k n : Nat} {cs : List Value} (h : (vs.drop (k * n)).take n = cs) : vs.take (k * n) ++ cs = vs.take ((k + 1) * n) := by
  subst h
  rw [show (k + 1) * n = k * n + n by rw [Nat.add_mul]; omega, List.take_add]
theorem bytes_c (ha : src h a l (ints .u8 xs)) (hla : xs.length = l) (hl : l ≤ 1099511627776) :
    Runs Tryd.prog 82 #[.slice a l c] h (Made h l 1 (ints .u8 xs)) := by
  refine vc_muezzinref_Bytes _ _ _ _ _ ⟨by omega, ?_⟩
  intro b1 h1 e1 e2
  have m := (Me.start h).push e2 e1
  clear e1 e2
  refine ⟨fun s n c i h' => ∃ (k : Nat) (E : Grp), i = k ∧ k ≤ l ∧ n = k ∧ Me (Wd.of h) h' [E] ∧ Ow s k c 1 (ints .u8 (xs.take k)) E, fun _ _ _ i _ => ((l : Int) - i).toNat,
    ⟨0, _, rfl, by omega, rfl, m, ?_⟩, fun _ => ?_⟩
  · have := Ow.fresh (b := b1) (l := 0) (c := l) (sz := 1) (vs := []) (rest := joinL (List.replicate l [.int .u8 0])) (T := 5) (by simp) (by rw [joinL_rep]; simp) (by omega)
    simpa [ints] using this
  clear m
  rintro s n c _ h2 ⟨k, E, rfl, hk, hn, m, o⟩
  subst n
  refine dcase_intro (fun q => ?_) fun q => ?_
  · obtain ⟨x, hx⟩ : ∃ y, xs[k]? = some y := ⟨_, List.getElem?_eq_getElem (by omega)⟩
    have kk := m.kept (Wd.le.refl _)
    obtain ⟨b2, o2, rfl, hc⟩ := src_cell (kk.src ha) (ints_get (k := .u8) hx)
    refine ⟨⟨by omega, by omega⟩, x, by simpa using hc, ?_⟩
    refine o.app1 m 0 rfl rfl (by simp [Value.oneCell']) (by omega) (by decide) fun a' c' E' h' m' o' => ?_
    refine ⟨by simp only [fits]; omega, ⟨k + 1, E', by omega, by omega, rfl, by simpa using m', ?_⟩, by dsimp only; omega⟩
    rw [← take_snoc hx, ints_app]; exact o'
  · obtain rfl : k = l := by omega
    rw [List.take_of_length_le (by omega)] at o
    exact ⟨_, _, _, rfl, m, o⟩
theorem packets_c (ha : src h a (l * 5) vs) (hla : vs.length = l * 5) (h1 : ∀ u ∈ vs, u.oneCell' = true) (hl : l ≤ 1099511627776) :
    Runs Tryd.prog 70 #[.slice a l c] h (Made h l 5 vs) := by
  refine vc_muezzinref_Packets _ _ _ _ _ ⟨by omega, ?_⟩
  intro b1 h1' e1 e2
  have m := (Me.start h).push e2 e1
  clear e1 e2
  refine ⟨fun s n c i h' => ∃ (k : Nat) (E : Grp), i = k ∧ k ≤ l ∧ n = k ∧ Me (Wd.of h) h' [E] ∧ Ow s k c 5 (vs.take (k * 5)) E, fun _ _ _ i _ => ((l : Int) - i).toNat,
    ⟨0, _, rfl, by omega, rfl, m, ?_⟩, fun _ => ?_⟩
  · have := Ow.fresh (b := b1) (l := 0) (c := l) (sz := 5) (vs := []) (rest := joinL (List.replicate l [.int .i64 0, .int .u32 0, .int .i64 0, .int .i64 0, .slice none 0 0])) (T := 35) (by simp) (by rw [joinL_rep]; simp) (by omega)
    simpa using this
  clear m
  rintro s n c _ h2 ⟨k, E, rfl, hk, hn, m, o⟩
  subst n
  refine dcase_intro (fun q => ?_) fun q => ?_
  · have kk := m.kept (Wd.le.refl _)
    obtain ⟨b2, o2, rfl, hc⟩ := src_part (n := 5) (k := k * 5) (kk.src ha) (by omega) (by decide) rfl
    refine ⟨⟨by omega, by omega⟩, _, hc, by simp; omega, ?_⟩
    refine o.app1 m 0 rfl (by simp; omega) (fun u hu => h1 u ?_) (by omega) (by decide) fun a' c' E' h' m' o' => ?_
    · simp at hu; exact List.mem_of_mem_drop (List.mem_of_mem_take hu)
    refine ⟨by simp only [fits]; omega, ⟨k + 1, E', by omega, by omega, rfl, by simpa using m', ?_⟩, by dsimp only; omega⟩
    rw [List.append_nil] at o'
    rw [← take_rows (n := 5) rfl]; exact o'
  · obtain rfl : k = l := by omega
    rw [List.take_of_length_le (by omega)] at o
    exact ⟨_, _, _, rfl, m, o⟩
theorem packet_c (hp : PkV (Wd.of h) p cs) (hl : p.body.length ≤ 1099511627776) :
    Runs Tryd.prog 66 #[.agg cs.toArray] h fun v h' => ∃ W' ds, (Wd.of h).le W' ∧ v = .agg ds.toArray ∧ PkV W' p ds ∧ Me W' h' [] := by
  obtain ⟨a, c, rfl, hbp⟩ := hp
  refine vc_muezzinref_Packet _ _ _ ?_
  intro b1 h1 e1 e2 b2 h2 e3 e4
  have m := ((Me.start h).push e2 e1).push e4 e3
  clear e1 e2 e3 e4
  have k := m.kept (Wd.le.refl _)
  obtain ⟨ha, hla⟩ := (hbp.le k.le).src
  refine ⟨_, _, _, m.cell 1 rfl rfl, (bytes_c ha hla hl).mono ?_⟩
  rintro _ h3 ⟨a', c', E, rfl, mk, o⟩
  replace m := m.beside mk
  refine ⟨_, _, _, rfl, m.wrb 2 rfl rfl, ?_⟩
  intro h4 e1
  replace m := m.setc 2 rfl e1
  refine ⟨_, m.rowb 2 rfl rfl rfl, ⟨rfl, m.wrsb 1 rfl rfl, by simp [Value.oneCell']⟩, ?_⟩
  intro h5 e2
  replace m := m.setr 1 rfl e2
  refine ⟨_, m.rowb 1 rfl rfl rfl, ?_⟩
  obtain ⟨W', hle, hE, m'⟩ := Me.give (E := E) m
  exact ⟨W', _, hle, rfl, ⟨a', c', rfl, o.bts rfl hE⟩, (m'.free 0 rfl).free 0 rfl⟩
/-- Without a number. -/
def delZ (x : Int) (xs : List Int) : List Int := xs.filter (fun y => !decide (y = x))
theorem del_c (ha : src h a l (ints .i64 xs)) (hla : xs.length = l) (hl : l ≤ 1099511627776) :
    Runs Tryd.prog 71 #[.slice a l c, .int .i64 x] h (Made h (delZ x xs).length 1 (ints .i64 (delZ x xs))) := by
  refine vc_muezzinref_Del _ _ _ _ _ _ ?_
  refine ⟨fun s n c i h' => ∃ (k : Nat) (E : Grp), i = k ∧ k ≤ l ∧ n = (delZ x (xs.take k)).length ∧ Me (Wd.of h) h' [E] ∧ Ow s n c 1 (ints .i64 (delZ x (xs.take k))) E, fun _ _ _ i _ => ((l : Int) - i).toNat,
    ⟨0, [], rfl, by omega, rfl, (Me.start h).nilI, Ow.nil⟩, fun _ => ?_⟩
  rintro s n c _ h2 ⟨k, E, rfl, hk, hn, m, o⟩
  subst n
  refine dcase_intro (fun q => ?_) fun q => ?_
  · obtain ⟨y, hx⟩ : ∃ y, xs[k]? = some y := ⟨_, List.getElem?_eq_getElem (by omega)⟩
    have kk := m.kept (Wd.le.refl _)
    obtain ⟨b2, o2, rfl, hc⟩ := src_cell (kk.src ha) (ints_get (k := .i64) hx)
    have hlt : (delZ x (xs.take k)).length ≤ l := Nat.le_trans (List.length_filter_le _ _) (by simp; omega)
    refine ⟨⟨by omega, by omega⟩, y, by simpa using hc, bcase_intro (fun q1 => ?_) fun q1 => ?_⟩
    · refine ⟨⟨by omega, by omega⟩, y, by simpa using hc, ?_⟩
      have e : delZ x (xs.take (k + 1)) = delZ x (xs.take k) ++ [y] := by
        rw [← take_snoc hx]; unfold delZ; rw [List.filter_append]; simp at q1; simp [q1]
      refine o.app1 m 0 rfl rfl (by simp [Value.oneCell']) (by omega) (by decide) fun a' c' E' h' m' o' => ?_
      refine ⟨by simp only [fits]; omega, ⟨k + 1, E', by omega, by omega, by rw [e]; simp, by simpa using m', ?_⟩, by dsimp only; omega⟩
      rw [e, ints_app]; exact o'
    · have e : delZ x (xs.take (k + 1)) = delZ x (xs.take k) := by
        rw [← take_snoc hx]; unfold delZ; rw [List.filter_append]; simp at q1; simp [q1]
      exact ⟨by simp only [fits]; omega, ⟨k + 1, E, by omega, by omega, by rw [e], m, by rw [e]; exact o⟩, by dsimp only; omega⟩
  · obtain rfl : k = l := by omega
    have e : xs.take k = xs := List.take_of_length_le (by omega)
    rw [e] at o ⊢
    exact ⟨_, _, _, rfl, m, o⟩
end
end Go.Proofs.YtpcilleldanfmaaDoor
