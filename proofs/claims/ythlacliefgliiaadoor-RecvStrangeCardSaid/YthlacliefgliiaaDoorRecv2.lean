/- Package recv in memory: a station that is made, what is answered, a data frame that comes alone, what is asked of a station. -/
import Derived.Test.YthlacliefgliiaaDoorRecv
import Derived.Test.YthlacliefgliiaaDoorDoor
set_option linter.unusedVariables false
set_option linter.unusedSimpArgs false
set_option maxRecDepth 8000
namespace Go.Proofs.YthlacliefgliiaaDoor
open Go.Vc
section
variable {W W' : Wd} {h h' : Heap} {b t j n : Nat} {T : TypeId} {size : Int} {css : List (List Value)} {cs us vs : List Value} {G G' : List Grp} {v : Value} {x : Ses} {f : Fm} {mv : Option Nat} {Q : Heap → Prop} {E : Grp}
theorem me_c (m : Me W h G) : Runs Tryd.prog 11 #[] h fun v h' => v = .agg (ints .u8 meL).toArray ∧ Me W h' G := by
  refine vc_muezzinlaw24_me _ _ ?_
  intro b1 h1 e1 e2
  have m1 := m.push e2 e1
  refine ⟨⟨rfl, m1.wrsb 0 rfl rfl, ints_one (k := .u8) (l := meL)⟩, fun h2 e3 => ?_⟩
  have m2 := m1.setr 0 rfl e3
  exact ⟨_, m2.row 0 rfl rfl (Nat.le_of_ble_eq_true rfl), rfl, m2.drop1⟩
theorem bss_c (m : Me W h G) : Runs Tryd.prog 12 #[] h fun v h' => v = .agg (ints .u8 bssL).toArray ∧ Me W h' G := by
  refine vc_muezzinlaw24_bss _ _ ?_
  intro b1 h1 e1 e2
  have m1 := m.push e2 e1
  refine ⟨⟨rfl, m1.wrsb 0 rfl rfl, ints_one (k := .u8) (l := bssL)⟩, fun h2 e3 => ?_⟩
  have m2 := m1.setr 0 rfl e3
  exact ⟨_, m2.row 0 rfl rfl (Nat.le_of_ble_eq_true rfl), rfl, m2.drop1⟩
theorem css0_n : ∀ c ∈ css0, c.length = 8 := z8_len
theorem css0_set (ht : t < 8) : css0.set t z8 = css0 := by
  unfold css0
  have : t = 0 ∨ t = 1 ∨ t = 2 ∨ t = 3 ∨ t = 4 ∨ t = 5 ∨ t = 6 ∨ t = 7 := by omega
  rcases this with rfl | rfl | rfl | rfl | rfl | rfl | rfl | rfl <;> rfl
theorem rnew_c (m : Me W h G) (hs : 1 ≤ size ∧ size ≤ 64) : Runs Tryd.prog 10 #[.agg (ints .u8 meL).toArray, .agg (ints .u8 bssL).toArray, .int .i64 size] h fun v h' => ∃ b T, v = .tuple #[.pointer (some ⟨b, 0, none⟩), .nilIface] ∧ ∀ t, t < 8 → St W h' b T size css0 t (sesC ses0 none) G := by
  refine vc_recv_New _ _ _ _ _ ?_
  intro b1 h1 e1 e2 b2 h2 f1 f2
  have m2 := (m.push e2 e1).push f2 f1
  refine dcase_neg (by omega) (dcase_neg (by omega) ⟨_, m2.row 1 rfl rfl (Nat.le_of_ble_eq_true rfl), _, m2.row 0 rfl rfl (Nat.le_of_ble_eq_true rfl), rfl, rfl, fun b3 h3 e3 e4 => ?_⟩)
  have m3 := m2.push e4 e3
  obtain ⟨T3, m4⟩ : ∃ T3, Me W h3 ([(b3, ck (preC size) css0 [], T3)] :: G) := ⟨_, (me_swap (me_swap m3).drop1).drop1⟩
  refine ⟨b3, T3, rfl, fun t ht => ⟨?_, css0_n, rfl, ht, rfl⟩⟩
  have e : stC size css0 t (sesC ses0 none) = ck (preC size) css0 [] := by unfold stC; rw [show sesC ses0 none = z8 from rfl, css0_set ht]
  rw [e]
  exact m4
end
/-- What a recipient is sent. -/
def dfm (tid sq : Int) (rt : Bool) (body : List Int) : Fm := ⟨meL, bssL, bssL, tid, sq, rt, false, false, body⟩
theorem dfm_ok {tid sq : Int} {rt : Bool} {body : List Int} (ht : 0 ≤ tid ∧ tid ≤ 7) (hs : 0 ≤ sq ∧ sq ≤ 4095) (hb : body.length ≤ 1500) : FmOk (dfm tid sq rt body) := ⟨rfl, rfl, rfl, ht.1, ht.2, hs.1, hs.2, hb⟩
section
variable {W W' : Wd} {h h' : Heap} {b t j n c : Nat} {a : Option Addr} {T : TypeId} {size : Int} {css : List (List Value)} {cs us vs : List Value} {G G' : List Grp} {v : Value} {x : Ses} {f : Fm} {mv : Option Nat} {Q : Heap → Prop} {E : Grp}
theorem data_c {k sz mp tid seq : Int} {rt agg : Bool} {bl bc : Nat} {body : List Int} (m : Me W h G) (hb : Bts W (.slice a bl bc) body) (ht : 0 ≤ tid ∧ tid ≤ 7) (hl : body.length ≤ 1500) :
    Runs Tryd.prog 15 #[.agg #[.int .i64 k, .int .i64 tid, .int .i64 0, .int .i64 sz, .bool rt, .bool agg, .int .u32 mp, .slice a bl bc], .int .i64 seq] h (Bmade W G (qosB (dfm tid (seq % 4096) rt body)) fun v => v) := by
  refine vc_muezzinlaw24_data [.int .i64 k, .int .i64 tid, .int .i64 0, .int .i64 sz, .bool rt, .bool agg, .int .u32 mp, .slice a bl bc] _ _ _ ?_
  intro b1 h1 e1 e2
  have m1 := m.push e2 e1
  refine ⟨_, m1.cell 0 rfl rfl, _, m1.cell 0 rfl rfl, _, _, _, m1.cell 0 rfl rfl, ?_⟩
  refine (me_c m1).mono ?_
  rintro _ h2 ⟨rfl, m2⟩
  refine ⟨_, rfl, m2.cell 0 rfl rfl, m2.cell 0 rfl rfl, m2.cell 0 rfl rfl, ?_⟩
  refine (bss_c m2).mono ?_
  rintro _ h3 ⟨rfl, m3⟩
  refine ⟨_, rfl, m3.cell 0 rfl rfl, m3.cell 0 rfl rfl, m3.cell 0 rfl rfl, ?_⟩
  refine (bss_c m3).mono ?_
  rintro _ h4 ⟨rfl, m4⟩
  refine ⟨_, rfl, m4.cell 0 rfl rfl, m4.cell 0 rfl rfl, m4.cell 0 rfl rfl, ?_⟩
  refine (radd_c _ _ _).ret ⟨_, rfl, m4.cell 0 rfl rfl, m4.cell 0 rfl rfl, m4.cell 0 rfl rfl, rfl, rfl, rfl, ?_⟩
  rw [and7 tid ht.1 ht.2, show addZ seq 0 = seq % 4096 by unfold addZ; omega]
  refine (qosBytes_c (f := dfm tid (seq % 4096) rt body) m4 ⟨_, rfl, hb⟩ (dfm_ok ht (by omega) hl)).mono ?_
  rintro _ h5 ⟨W', a', c', hle, rfl, m5, hb5⟩
  exact ⟨_, _, _, _, rfl, m5.cell 0 rfl rfl, m5.cell 0 rfl rfl, m5.cell 0 rfl rfl, W', a', c', hle, rfl, m5.drop1, hb5⟩
theorem ackC_len {to fr : List Int} {tid sq mp : Int} (h1 : to.length = 6) (h2 : fr.length = 6) : (ackC to fr tid sq mp).length = 15 := by simp [ackC, ints, h1, h2]
/-- What is answered. -/
def AnsV (W : Wd) (b : Nat) (T : TypeId) (size : Int) (css : List (List Value)) (t : Nat) (G : List Grp) (mv : Option Nat) (x : Ses) (v : Value) (h' : Heap) : Prop :=
  ∃ W' a c, W.le W' ∧ v = .slice a 28 c ∧ Bts W' (.slice a 28 c) (ackB bssL meL t x.ackS x.ackM) ∧ St W' h' b T size css t (sesC x mv) G
theorem answer_c (s : St W h b T size css t (sesC x mv) G) (hx : SesOk x) :
    Runs Tryd.prog 35 #[.pointer (some ⟨b, 0, none⟩), .int .i64 (t : Int)] h (AnsV W b T size css t G mv x) := by
  have ht := s.ht
  refine vc_recv_Station_answer _ _ _ _ ⟨by omega, _, s.rbss, _, s.rme, x.last, s.get 7 rfl, rfl, rfl, ?_⟩
  intro b1 h1 e1 e2
  replace s := s.push e1 e2
  refine ⟨⟨rfl, s.m.wrsb 1 rfl rfl, ackC_one bssL meL t x.last 1⟩, fun h2 e3 => ?_⟩
  have m2 := s.m.setr 1 rfl e3
  replace s : St W h2 b T size css t (sesC x mv) ([(b1, ackC bssL meL t x.last 1, 44)] :: G) := s.mem m2
  refine ⟨_, s.get0 rfl, bcase_intro (fun q => ?_) fun q => ?_⟩
  · refine ⟨_, s.get 3 rfl, _, s.get 4 rfl, ?_⟩
    refine s.m.store 1 rfl (by show 13 < 15; decide) fun h3 m3 => ?_
    have s3 := s.mem m3
    refine ⟨s3.get 4 rfl, ?_⟩
    refine s3.m.store 1 rfl (by show 14 < 15; decide) fun h4 m4 => ?_
    replace m4 : Me W h4 ([(b, stC size css t (sesC x mv), T)] :: [(b1, ackC bssL meL t x.fr x.bits, 44)] :: G) := m4
    refine ⟨ackC bssL meL t x.fr x.bits, m4.row 1 rfl rfl (Nat.le_of_ble_eq_true rfl), ?_⟩
    refine (ackBytes_c m4 rfl rfl (by omega) hx.f).mono ?_
    rintro _ h5 ⟨W', a, c, hle, rfl, m5, hb5⟩
    have e : x.ackS = x.fr ∧ x.ackM = x.bits := by unfold Ses.ackS Ses.ackM; rw [q]; exact ⟨rfl, rfl⟩
    refine ⟨_, _, _, _, rfl, true, rfl, bcase_false rfl ⟨W', a, c, hle, rfl, ?_, (s.mem m5).drop⟩⟩
    rw [e.1, e.2]; exact hb5
  · refine ⟨ackC bssL meL t x.last 1, s.m.row 1 rfl rfl (Nat.le_of_ble_eq_true rfl), ?_⟩
    refine (ackBytes_c s.m rfl rfl (by omega) hx.l).mono ?_
    rintro _ h5 ⟨W', a, c, hle, rfl, m5, hb5⟩
    have e : x.ackS = x.last ∧ x.ackM = 1 := by unfold Ses.ackS Ses.ackM; rw [q]; exact ⟨rfl, rfl⟩
    refine ⟨_, _, _, _, rfl, true, rfl, bcase_false rfl ⟨W', a, c, hle, rfl, ?_, (s.mem m5).drop⟩⟩
    rw [e.1, e.2]; exact hb5
theorem FmV.one' {W : Wd} {f : Fm} {cs : List Value} (hv : FmV W f cs) : ∀ u ∈ cs, u.oneCell' = true := by
  obtain ⟨v, rfl, hb⟩ := hv
  obtain ⟨a, c, rfl, -, -⟩ := hb
  exact fmc_one _ _ _ _
/-- What a data frame that comes alone yields. -/
def DataV (W : Wd) (b : Nat) (T : TypeId) (size : Int) (css : List (List Value)) (t : Nat) (G : List Grp) (mv : Option Nat) (out : List Fm) (x : Ses) (v : Value) (h' : Heap) : Prop :=
  ∃ W' a c E vs a2 c2, W.gr W' mv ∧ v = .tuple #[.slice a out.length c, .slice a2 28 c2] ∧ Ow a out.length c 24 vs E ∧ Sq (FmV W') out vs ∧ KeptV W' mv x.kept ∧ Bts W' (.slice a2 28 c2) (ackB bssL meL t x.ackS x.ackM) ∧ St W' h' b T size css t (sesC x mv) (E :: G)
theorem gr_cl {r : Option Nat} (hg : W.gr W' r) (hr : ∀ k, r = some k → ∃ es c, W k = some (.map es c)) : ∀ b o v, wcell W b o = some v → wcell W' b o = some v := by
  intro b o v hv
  unfold wcell at hv ⊢
  split at hv
  · rename_i cc e1 e2 hW
    have hne : some b ≠ r := by
      intro e
      obtain ⟨es, c, h2⟩ := hr b e.symm
      rw [hW] at h2; cases h2
    rw [hg b _ hne hW]; exact hv
  · cases hv
theorem EsV.mono {es : List MapEntry} (hm : ∀ f cs, FmV W f cs → FmV W' f cs) : ∀ {es : List MapEntry} {l : List Fm}, EsV W es l → EsV W' es l
  | [], l, h => h
  | e :: es, l, ⟨f, r, cs, e1, e2, e3, h1, h2⟩ => ⟨f, r, cs, e1, e2, e3, hm f cs h1, EsV.mono (es := es) hm h2⟩
theorem KeptV.le {l : List Fm} (hl : W.le W') (hk : KeptV W mv l) : KeptV W' mv l := by
  unfold KeptV at hk ⊢
  split
  · exact hk
  · rename_i r
    obtain ⟨es, c, h1, h2, h3, h4⟩ := hk.v
    exact ⟨es, c, hl _ _ h1, EsV.mono (es := es) (fun f cs hv => hv.le hl) h2, h3, h4⟩
end
end Go.Proofs.YthlacliefgliiaaDoor
