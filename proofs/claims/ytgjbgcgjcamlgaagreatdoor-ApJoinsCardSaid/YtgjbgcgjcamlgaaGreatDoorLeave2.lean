/- The station of number 1 leaves. -/
import Derived.Test.YtgjbgcgjcamlgaaGreatDoorLeave
set_option linter.unusedVariables false
set_option linter.unusedSimpArgs false
set_option maxRecDepth 8000
namespace Go.Proofs.YtgjbgcgjcamlgaaGreatDoor
open Go.Vc
section
variable {W W' : Wd} {h h' : Heap} {G : List Grp} {E Q : Grp} {ads : List Addr} {n k i j b o : Nat} {vs us cs : List Value} {x : Ap} {v : Value} {tm : List On} {T : TypeId} {l : List Int} {q : On} {ss : List Sc} {c : Cf}
theorem map_set3 {A B C : Grp} {s2 : List Sc} {s : Sc} (hk : k < s2.length) : (A :: B :: C :: (s2.map Sc.g ++ G)).set (3 + k) s.g = A :: B :: C :: ((s2.set k s).map Sc.g ++ G) := by
  rw [show 3 + k = k + 1 + 1 + 1 by omega]
  simp only [List.set_cons_succ]
  rw [List.set_append_left _ _ (by rw [List.length_map]; exact hk), List.map_set]
theorem me_lv {A B L E : Grp} {S : List Grp} (m : Me W h (B :: A :: (S ++ (L :: E :: G)))) : Me W h (E :: A :: B :: L :: (S ++ G)) := m.perm (by
  classical
  exact List.perm_iff_count.2 fun a => by simp only [List.flatten_cons, List.flatten_append, List.count_append]; omega)
theorem stC_at {r : List Value} {ps : List (Option Addr)} (hr : r.length = 5) {p : Option Addr} (hk : ps[k]? = some p) : (stC r ps)[6 + k * 5]? = some (.pointer p) := by
  unfold stC
  exact ck_get (n := 5) (k := k) (j := 0) (cs := lineC p) line_len (by rw [List.getElem?_map, hk]; rfl) (by simp [hr]) rfl
theorem ApW.wyw (w : ApW x) : ApW (x.setWy v) := ⟨w.cc, w.t16, w.t8, w.p16, w.p10, w.mid, w.ts, w.ed, w.ls⟩
theorem ApW.lsw (w : ApW x) : ApW (x.setLs (x.ls.set k v)) := ⟨w.cc, w.t16, w.t8, w.p16, w.p10, w.mid, w.ts, w.ed, (List.length_set ..).trans w.ls⟩
/-- A turn's one there. -/
def OneV (W : Wd) (k : Nat) (s : Sc) : Prop := s.l.length = 16 ∧ ∃ o weight, s.l[k]? = some (.pointer (some ⟨o, 0, none⟩)) ∧ W o = some (.cells (oneS ((k : Int) + 1) weight).toArray 179)
set_option maxHeartbeats 800000 in
theorem leave1_c {p : Addr} {bl bx : Nat} {seed tg iv : Int} {v0 : Value} {lv r : List Value} {ps : List (Option Addr)} {TL : TypeId} (w : ApW x) (tw : TbW tm) (ht : x.tb = tm.map onC) (hq : tm[0]? = some q) (hqt : q.th = true)
    (hts : x.ts = ss.map fun s => .pointer (some ⟨s.b, 0, none⟩)) (hss : ss.length = 4) (hsl : ∀ s ∈ ss, OneV W 0 s) (hmid : x.mid = [v0, .pointer (some p), .pointer (some ⟨bl, 0, none⟩)]) (hR : PlR seed tg iv p E)
    (hls : x.ls[0]? = some (.pointer (some ⟨bx, 0, none⟩))) (hbx : W bx = some (.cells (stC r ps).toArray 113)) (hr : r.length = 5) (hps : ps.length = 8) (hses : SesV W c ps) (hwy : x.wy = .slice none 0 0)
    (hlv : lv.length = 18) (hpw : x.pw[0]? = some cs) (h0 : cs[0]? = some (.bool true))
    (m : Me W h ([(b, x.C, T)] :: (ss.map Sc.g ++ ([(bl, lv, TL)] :: E :: G)))) :
    Runs Tryz.prog 14 #[.pointer (some ⟨b, 0, none⟩), .int .i64 1] h fun v h' => v = .nilIface ∧ ∃ x', ApW x' ∧ x'.tb = (tm.set 0 ⟨false, [0, 0, 0, 0, 0, 0], q.ep⟩).map onC ∧ ∃ G', Me W h' ([(b, x'.C, T)] :: (G' ++ G)) := by
  have hlen := w.len
  refine vc_ap_AP_Leave _ _ _ _ ?_
  intro b1 h1 e1 e2
  replace m := me_lv (m.push e2 e1)
  obtain ⟨bp, vs, Q, rfl, rfl, pc, pq⟩ := hR
  refine ⟨1, m.cell 2 rfl rfl, (apOf_c (k := 0) w m 1 rfl (by decide) hls).ret ⟨_, rfl, bcase_false rfl (on_addr ⟨some ⟨bp, 0, none⟩, m.cell 1 rfl (w.mid_at (k := 1) (by rw [hmid]; rfl)), 1, m.cell 2 rfl rfl, ?_⟩)⟩⟩
  refine (poolDrop0_c (m.split (A := [(bp, vs, _)])) pc pq).mono ?_
  clear m
  rintro _ h3 ⟨⟨da, dc, rfl⟩, m⟩
  refine ⟨_, _, _, rfl, (drop0_c 5 h3).mono ?_⟩
  rintro _ h3 rfl
  refine ⟨fun z h => ∃ k : Nat, z = k ∧ k ≤ 8 ∧ h = h3, fun z _ => (8 - z).toNat, ⟨0, rfl, by omega, rfl⟩, fun _ => ?_⟩
  rintro _ h3 ⟨k, rfl, hk, rfl⟩
  refine dcase_intro (fun q1 => ?_) fun q1 => ?_
  · have hkl : k < ps.length := by omega
    obtain ⟨bs, bw, hbs, hWs⟩ := hses _ (List.getElem_mem hkl)
    refine on_addr ⟨⟨by omega, by omega⟩, some ⟨bs, 0, none⟩, ?_, (out0_c m hWs).ret ⟨_, _, _, rfl, ?_⟩⟩
    · rw [show 0 + 6 + ((k : Int)).toNat * 5 = 6 + k * 5 by omega]
      exact m.wcell (wcell_of hbx (stC_at hr (by rw [List.getElem?_eq_getElem hkl, hbs])))
    refine ⟨fun z h => z = 0 ∧ h = h3, fun _ _ => 0, ⟨rfl, rfl⟩, fun _ => ?_⟩
    rintro _ h3 ⟨rfl, rfl⟩
    exact dcase_neg (by decide) ⟨by simp only [fits]; omega, ⟨k + 1, by omega, by omega, rfl⟩, by dsimp only; omega⟩
  refine on_addr ⟨none, 0, 0, by rw [← hwy]; exact m.cell 0 rfl w.wy_at, (del0_c _ _).ret ⟨none, 0, 0, rfl, on_addr ?_⟩⟩
  refine m.store 0 rfl (by omega) fun h4 m => ?_
  simp only [List.set_cons_zero] at m
  rw [show 0 + 346 = 346 from rfl, w.wy_set] at m
  replace w := w.wyw (v := .slice none 0 0)
  replace hmid : (x.setWy (.slice none 0 0)).mid = [v0, .pointer (some ⟨bp, 0, none⟩), .pointer (some ⟨bl, 0, none⟩)] := hmid
  replace hts : (x.setWy (.slice none 0 0)).ts = ss.map fun s => .pointer (some ⟨s.b, 0, none⟩) := hts
  replace ht : (x.setWy (.slice none 0 0)).tb = tm.map onC := ht
  replace hpw : (x.setWy (.slice none 0 0)).pw[0]? = some cs := hpw
  obtain ⟨y, hy⟩ : ∃ y, y = x.setWy (.slice none 0 0) := ⟨_, rfl⟩
  rw [← hy] at m w hmid hts ht hpw
  clear hy hls hlen hwy
  have hlen := w.len
  refine on_addr ⟨some ⟨bl, 0, none⟩, m.cell 0 rfl (w.mid_at (k := 2) (by rw [hmid]; rfl)), 1, m.cell 1 rfl rfl, (clear_c m 2 rfl hlv).mono ?_⟩
  clear m
  rintro _ h5 ⟨lv', m⟩
  simp only [List.set_cons_succ, List.set_cons_zero] at m
  refine on_addr ⟨y.ts, m.row 0 rfl w.ts_row (by omega), ?_⟩
  refine ⟨fun z h => ∃ (k : Nat) (s2 : List Sc), z = k ∧ k ≤ 4 ∧ s2.length = 4 ∧ (∀ j s, k ≤ j → ss[j]? = some s → s2[j]? = some s) ∧ Me W h ([(b, y.C, T)] :: [(b1, [.int .i64 1], 3)] :: [(bl, lv', TL)] :: (s2.map Sc.g ++ G)), fun z _ => (4 - z).toNat, ⟨0, ss, rfl, by omega, hss, fun _ _ _ h => h, m⟩, fun _ => ?_⟩
  clear m
  rintro _ h6 ⟨k, s2, rfl, hk4, hs2, hrest, m⟩
  refine dcase_intro (fun q4 => ?_) fun q4 => ?_
  · have hkl : k < ss.length := by omega
    have hsk := List.getElem?_eq_getElem hkl
    obtain ⟨hl16, o, weight, ho, hWo⟩ := hsl _ (List.getElem_mem hkl)
    have hs2k := hrest k _ (Nat.le_refl k) hsk
    refine ⟨⟨by omega, by omega⟩, some ⟨ss[k].b, 0, none⟩, ?_, 1, m.cell 1 rfl rfl, ?_⟩
    · rw [show ((k : Int)).toNat = k from rfl, hts, List.getElem?_map, hsk]; rfl
    refine (schedDel_c (k := 0) m (3 + k) (by
      rw [show 3 + k = k + 1 + 1 + 1 by omega]
      simp only [List.getElem?_cons_succ]
      rw [List.getElem?_append_left (by rw [List.length_map]; omega), List.getElem?_map, hs2k]; rfl) hl16 (by decide) ho hWo).mono ?_
    rintro _ h7 ⟨rfl, m7⟩
    rw [map_set3 (by omega)] at m7
    refine ⟨_, rfl, by simp only [fits]; omega, ⟨k + 1, _, by omega, by omega, (List.length_set ..).trans hs2, fun j s hj hs => ?_, m7⟩, by dsimp only; omega⟩
    rw [List.getElem?_set_ne (by omega)]
    exact hrest j s (by omega) hs
  refine on_addr ⟨1, m.cell 1 rfl rfl, (powerDel_c (i := 0) w (by decide) hpw h0 m).mono ?_⟩
  clear m
  rintro _ h8 m
  replace w := w.pww (k := 0) (cs := one10) rfl
  refine ⟨1, m.cell 1 rfl rfl, by simp only [fits]; omega, on_addr ⟨by decide, ?_⟩⟩
  refine m.store 0 rfl (by show _ < ((y.setPw (y.pw.set 0 one10)).C).length; rw [w.len]; decide) fun h9 m => ?_
  simp only [List.set_cons_zero] at m
  rw [show 0 + 329 + ((1 : Int) - 1).toNat = 329 + 0 from rfl, w.ls_set (by decide)] at m
  replace w := w.lsw (k := 0) (v := .pointer none)
  refine on_addr ⟨1, m.cell 1 rfl rfl, (tabDel_c (i := 0) w tw ht (by decide) hq hqt m).mono ?_⟩
  clear m
  rintro _ h10 ⟨rfl, m⟩
  refine ⟨_, rfl, rfl, _, ?_, rfl, [(b1, [.int .i64 1], 3)] :: [(bl, lv', TL)] :: s2.map Sc.g, m⟩
  have := w.tbw (k := 0) (cs := onC ⟨false, [0, 0, 0, 0, 0, 0], q.ep⟩) rfl
  have e : (tm.set 0 ⟨false, [0, 0, 0, 0, 0, 0], q.ep⟩).map onC = y.tb.set 0 (onC ⟨false, [0, 0, 0, 0, 0, 0], q.ep⟩) := by rw [ht, List.map_set]
  rw [e]
  exact this
end
end Go.Proofs.YtgjbgcgjcamlgaaGreatDoor
