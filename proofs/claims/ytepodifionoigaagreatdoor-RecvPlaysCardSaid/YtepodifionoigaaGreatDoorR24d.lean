import Derived.Test.YtepodifionoigaaGreatDoorMSesG
import Derived.Test.YtepodifionoigaaGreatDoorUnp
set_option linter.unusedVariables false
set_option linter.unusedSimpArgs false
set_option maxRecDepth 8000
namespace Go.Proofs.YtepodifionoigaaGreatDoor
open Go.Vc
theorem set_same {α : Type} {l : List α} {i : Nat} {v : α} (h : l[i]? = some v) : l.set i v = l := by
  obtain ⟨hi, rfl⟩ := List.getElem?_eq_some_iff.1 h
  exact List.set_getElem_self hi
theorem perm_set {α : Type} : ∀ {l : List α} {i : Nat} {x : α}, i < l.length → (l.set i x).Perm (x :: l.eraseIdx i)
  | [], _, _, h => by simp at h
  | a :: l, 0, x, _ => List.Perm.refl _
  | a :: l, i + 1, x, h => by
    rw [List.set_cons_succ, List.eraseIdx_cons_succ]
    exact ((perm_set (l := l) (i := i) (x := x) (by simpa using h)).cons a).trans (List.Perm.swap x a _)
theorem zip_set {α β γ : Type} (f : α → β → γ) : ∀ (l : List α) (m : List β) (i : Nat) (x : α) (y : β), List.zipWith f (l.set i x) (m.set i y) = (List.zipWith f l m).set i (f x y)
  | [], m, i, x, y => by simp
  | a :: l, [], i, x, y => by cases i <;> simp
  | a :: l, b :: m, 0, x, y => rfl
  | a :: l, b :: m, i + 1, x, y => by simp [zip_set f l m i x y]
theorem perm_out {E U B X : Grp} : (E ++ (U ++ (B ++ X))).Perm (U ++ (B ++ (E ++ X))) :=
  (List.perm_append_comm_assoc E U (B ++ X)).trans ((List.perm_append_comm_assoc E B X).append_left U)
structure Kp where
  a : Option Addr
  c : Nat
  E : Grp
  vs : List Value
def kpC (x : Ses) (p : Kp) : List Value := parC x (.slice p.a x.kept.length p.c)
def kpOk (W : Wd) (x : Ses) (p : Kp) : Prop := Ow p.a x.kept.length p.c 24 p.vs p.E ∧ Sq (FmV W) x.kept p.vs
def kpE (ps : List Kp) : Grp := (ps.map (·.E)).flatten
theorem kpE_set {ps : List Kp} {i : Nat} {p : Kp} (h : i < ps.length) : (kpE (ps.set i p)).Perm (p.E ++ kpE (ps.eraseIdx i)) := by
  have := ((perm_set (x := p) h).map (·.E)).flatten
  simpa [kpE] using this
def R8 (W : Wd) (h : Heap) (b : Nat) (T : TypeId) (size : Int) (xs : List Ses) (G : List Grp) : Prop :=
  ∃ ps : List Kp, xs.length = 8 ∧ ps.length = 8 ∧ (∀ (i : Nat) (x : Ses) (p : Kp), xs[i]? = some x → ps[i]? = some p → kpOk W x p) ∧ Me W h ([(b, ck (preC size) (List.zipWith kpC xs ps) [], T)] :: kpE ps :: G)
def Ru (W : Wd) (h : Heap) (b : Nat) (T : TypeId) (size : Int) (xs : List Ses) (up : List Fm) (bu : Nat) (Tu : TypeId) (G : List Grp) : Prop :=
  ∃ (ps : List Kp) (ua : Option Addr) (uc : Nat) (U : Grp) (us : List Value), xs.length = 8 ∧ ps.length = 8 ∧ (∀ (i : Nat) (x : Ses) (p : Kp), xs[i]? = some x → ps[i]? = some p → kpOk W x p) ∧ Ow ua up.length uc 24 us U ∧ Sq (FmV W) up us ∧
    Me W h ([(b, ck (preC size) (List.zipWith kpC xs ps) [], T)] :: U :: [(bu, [.slice ua up.length uc], Tu)] :: kpE ps :: G)
def RoV (W : Wd) (b : Nat) (T : TypeId) (size : Int) (xs : List Ses) (up : List Fm) (G : List Grp) (K : Wd → Value → Prop) (h' : Heap) : Prop :=
  ∃ W' a c U us, W.le W' ∧ Ow a up.length c 24 us U ∧ Sq (FmV W') up us ∧ R8 W' h' b T size xs (U :: G) ∧ K W' (.slice a up.length c)
section
variable {W W' : Wd} {h h' : Heap} {b t j n c bu i b1 : Nat} {a : Option Addr} {T Tu T1 : TypeId} {size : Int} {css : List (List Value)} {cs us vs : List Value} {G G' : List Grp} {v : Value} {x : Ses} {xs : List Ses} {f : Fm} {E A : Grp} {up : List Fm} {bs : List Int} {kv : Value}
theorem cl_le (hle : W.le W') : ∀ b o v, wcell W b o = some v → wcell W' b o = some v := fun _ _ _ => wcell_le hle
theorem kpOk.cl {p : Kp} (hk : kpOk W x p) (hc : ∀ b o v, wcell W b o = some v → wcell W' b o = some v) : kpOk W' x p := ⟨hk.1, hk.2.mono fun f cs hv => fmv_cl hc hv⟩
theorem R8.me (r : R8 W h b T size xs G) : ∃ GG, Me W h GG ∧ ∀ W' h', (∀ b o v, wcell W b o = some v → wcell W' b o = some v) → Me W' h' GG → R8 W' h' b T size xs G := by
  obtain ⟨ps, h1, h2, h3, m⟩ := r
  exact ⟨_, m, fun W' h' hc m' => ⟨ps, h1, h2, fun i x p e1 e2 => (h3 i x p e1 e2).cl hc, m'⟩⟩
theorem R8.push (r : R8 W h b T size xs G) (e1 : b1 = h.size) (e2 : h' = h.push (.cells vs.toArray T1)) : R8 W h' b T size xs ([(b1, vs, T1)] :: G) := by
  obtain ⟨ps, h1, h2, h3, m⟩ := r
  refine ⟨ps, h1, h2, h3, (m.push e2 e1).perm ?_⟩
  simp only [List.flatten_cons]
  exact perm_out
theorem Ru.me (r : Ru W h b T size xs up bu Tu G) : ∃ GG, Me W h GG ∧ ∀ W' h', (∀ b o v, wcell W b o = some v → wcell W' b o = some v) → Me W' h' GG → Ru W' h' b T size xs up bu Tu G := by
  obtain ⟨ps, ua, uc, U, us, h1, h2, h3, h4, h5, m⟩ := r
  exact ⟨_, m, fun W' h' hc m' => ⟨ps, ua, uc, U, us, h1, h2, fun i x p e1 e2 => (h3 i x p e1 e2).cl hc, h4, h5.mono fun f cs hv => fmv_cl hc hv, m'⟩⟩
theorem Ru.push (r : Ru W h b T size xs up bu Tu G) (e1 : b1 = h.size) (e2 : h' = h.push (.cells vs.toArray T1)) : Ru W h' b T size xs up bu Tu ([(b1, vs, T1)] :: G) := by
  obtain ⟨ps, ua, uc, U, us, h1, h2, h3, h4, h5, m⟩ := r
  refine ⟨ps, ua, uc, U, us, h1, h2, h3, h4, h5, (m.push e2 e1).perm ?_⟩
  simp only [List.flatten_cons]
  refine (List.perm_append_comm_assoc _ _ _).trans (List.Perm.append_left _ ?_)
  refine (List.perm_append_comm_assoc _ _ _).trans (List.Perm.append_left _ ?_)
  exact perm_out
theorem Ru.drop (r : Ru W h b T size xs up bu Tu (A :: G)) : Ru W h b T size xs up bu Tu G := by
  obtain ⟨ps, ua, uc, U, us, h1, h2, h3, h4, h5, m⟩ := r
  exact ⟨ps, ua, uc, U, us, h1, h2, h3, h4, h5, m.free 4 rfl⟩
theorem Ru.blk (r : Ru W h b T size xs up bu Tu G) (i : Nat) (hi : G[i]? = some [(b1, vs, T1)]) : Blk h b1 vs T1 := by
  obtain ⟨ps, ua, uc, U, us, h1, h2, h3, h4, h5, m⟩ := r
  exact m.blk (4 + i) (by rw [Nat.add_comm]; exact hi)
theorem Ru.setr (r : Ru W h b T size xs up bu Tu G) (i : Nat) (hi : G[i]? = some [(b1, vs, T1)]) (e : h' = Go.Vc.setr h b1 j us) : Ru W h' b T size xs up bu Tu (G.set i [(b1, setL vs j us, T1)]) := by
  obtain ⟨ps, ua, uc, U, us', h1, h2, h3, h4, h5, m⟩ := r
  refine ⟨ps, ua, uc, U, us', h1, h2, h3, h4, h5, ?_⟩
  have := m.setr (4 + i) (by rw [Nat.add_comm]; exact hi) e
  rw [Nat.add_comm] at this
  exact this
theorem kcss_len (h1 : xs.length = 8) {ps : List Kp} (h2 : ps.length = 8) : (List.zipWith kpC xs ps).length = 8 ∧ ∀ c ∈ List.zipWith kpC xs ps, c.length = 8 := by
  refine ⟨by rw [List.length_zipWith, h1, h2]; rfl, fun c hc => ?_⟩
  obtain ⟨i, hi⟩ := List.getElem?_of_mem hc
  rw [List.getElem?_zipWith] at hi
  cases hx : xs[i]? with
  | none => simp [hx] at hi
  | some x =>
    cases hp : ps[i]? with
    | none => simp [hx, hp] at hi
    | some p => simp [hx, hp] at hi; subst hi; rfl
theorem Ru.at (r : Ru W h b T size xs up bu Tu G) (hx : xs[t]? = some x) : ∃ css K, Rp W h b T size css t x up bu Tu (K :: G) ∧ ∀ W' h' x' up', (∀ b o v, wcell W b o = some v → wcell W' b o = some v) → Rp W' h' b T size css t x' up' bu Tu (K :: G) → Ru W' h' b T size (xs.set t x') up' bu Tu G := by
  obtain ⟨ps, ua, uc, U, us, h1, h2, h3, h4, h5, m⟩ := r
  have htl := (List.getElem?_eq_some_iff.1 hx).1
  have hp : ps[t]? = some ps[t] := List.getElem?_eq_getElem (by omega)
  obtain ⟨p, hpp⟩ : ∃ p, p = ps[t] := ⟨_, rfl⟩
  rw [← hpp] at hp
  obtain ⟨k1, k2⟩ := kcss_len h1 h2
  obtain ⟨o1, o2⟩ := h3 t x p hx hp
  have hcs : (List.zipWith kpC xs ps)[t]? = some (kpC x p) := by rw [List.getElem?_zipWith, hx, hp]
  have hE := kpE_set (p := p) (i := t) (ps := ps) (by omega)
  rw [set_same hp] at hE
  refine ⟨List.zipWith kpC xs ps, kpE (ps.eraseIdx t), ⟨p.a, p.c, p.E, p.vs, ua, uc, U, us, ⟨?_, k2, k1, by omega, rfl⟩, o1, o2, h4, h5⟩, ?_⟩
  · have e : stC size (List.zipWith kpC xs ps) t (parC x (.slice p.a x.kept.length p.c)) = ck (preC size) (List.zipWith kpC xs ps) [] := by
      show ck (preC size) ((List.zipWith kpC xs ps).set t (kpC x p)) [] = _
      rw [set_same hcs]
    rw [e]
    refine m.perm ?_
    simp only [List.flatten_cons]
    refine List.Perm.append_left _ ?_
    refine List.Perm.trans ?_ perm_out.symm
    refine List.Perm.append_left _ (List.Perm.append_left _ ?_)
    rw [← List.append_assoc]
    exact hE.append_right _
  · rintro W' h' x' up' hc ⟨a', c', E', vs', ua', uc', U', us', s', q1, q2, q3, q4⟩
    have m' := s'.m
    have e : stC size (List.zipWith kpC xs ps) t (parC x' (.slice a' x'.kept.length c')) = ck (preC size) (List.zipWith kpC (xs.set t x') (ps.set t ⟨a', c', E', vs'⟩)) [] := by
      rw [zip_set]; rfl
    rw [e] at m'
    refine ⟨ps.set t ⟨a', c', E', vs'⟩, ua', uc', U', us', by rw [List.length_set]; exact h1, by rw [List.length_set]; exact h2, fun i y q e1 e2 => ?_, q3, q4, m'.perm ?_⟩
    · by_cases hi : t = i
      · subst hi
        rw [List.getElem?_set_self (by omega)] at e1 e2
        cases e1; cases e2
        exact ⟨q1, q2⟩
      · rw [List.getElem?_set_ne hi] at e1 e2
        exact (h3 i y q e1 e2).cl hc
    · simp only [List.flatten_cons]
      refine List.Perm.append_left _ ?_
      refine List.Perm.trans perm_out ?_
      refine List.Perm.append_left _ (List.Perm.append_left _ ?_)
      rw [← List.append_assoc]
      exact ((kpE_set (p := ⟨a', c', E', vs'⟩) (i := t) (ps := ps) (by omega)).symm).append_right _
theorem Ru.start (r : R8 W h b T size xs G) (e1 : bu = h.size) (e2 : h' = h.push (.cells #[.slice none 0 0] Tu)) : Ru W h' b T size xs [] bu Tu G := by
  obtain ⟨ps, h1, h2, h3, m⟩ := r
  have m2 := m.push (vs := [.slice none 0 0]) e2 e1
  refine ⟨ps, none, 0, [], [], h1, h2, h3, Ow.nil, rfl, m2.nilI.perm ?_⟩
  simp only [List.flatten_cons, List.nil_append]
  exact List.perm_append_comm_assoc _ _ _
theorem Ru.fin (r : Ru W h b T size xs up bu Tu G) {K : Wd → Value → Prop} (hle : W'.le W) : ∃ a c, cell h bu 0 = some (.slice a up.length c) ∧ (K W (.slice a up.length c) → RoV W' b T size xs up G K h) := by
  obtain ⟨ps, ua, uc, U, us, h1, h2, h3, h4, h5, m⟩ := r
  refine ⟨ua, uc, m.cell 2 rfl rfl, fun hK => ⟨W, ua, uc, U, us, hle, h4, h5, ⟨ps, h1, h2, h3, (m.free 2 rfl).perm ?_⟩, hK⟩⟩
  simp only [List.eraseIdx_cons_succ, List.eraseIdx_cons_zero, List.flatten_cons]
  exact (List.perm_append_comm_assoc _ _ _).append_left _
theorem Ru.cup (r : Ru W h b T size xs up bu Tu G) : ∃ a c, cell h bu 0 = some (.slice a up.length c) := by
  obtain ⟨ps, ua, uc, U, us, h1, h2, h3, h4, h5, m⟩ := r
  exact ⟨ua, uc, m.cell 2 rfl rfl⟩
theorem Ru.rme (r : Ru W h b T size xs up bu Tu G) : row h b 0 6 = some (ints .u8 meL) := by
  obtain ⟨ps, ua, uc, U, us, h1, h2, h3, h4, h5, m⟩ := r
  exact m.row 0 rfl rfl (by obtain ⟨k1, k2⟩ := kcss_len h1 h2; have := ck_len (pre := preC size) (post := []) k2; rw [this]; have : (preC size).length = 13 := rfl; omega)
theorem Ru.rbss (r : Ru W h b T size xs up bu Tu G) : row h b 6 6 = some (ints .u8 bssL) := by
  obtain ⟨ps, ua, uc, U, us, h1, h2, h3, h4, h5, m⟩ := r
  exact m.row 0 rfl rfl (by obtain ⟨k1, k2⟩ := kcss_len h1 h2; have := ck_len (pre := preC size) (post := []) k2; rw [this]; have : (preC size).length = 13 := rfl; omega)
theorem Ru.rsize (r : Ru W h b T size xs up bu Tu G) : cell h b 12 = some (.int .i64 size) := by
  obtain ⟨ps, ua, uc, U, us, h1, h2, h3, h4, h5, m⟩ := r
  exact m.hget 0 rfl (by show 12 < 13; decide) rfl
theorem ranswer_c (s : St W h b T size css t (parC x kv) G) (hx : SesOk x) :
    Runs Tryz.prog 59 #[.pointer (some ⟨b, 0, none⟩), .int .i64 (t : Int)] h fun v h' => ∃ W' a c, W.le W' ∧ v = .slice a (ackB bssL meL t x.ackS x.ackM).length c ∧ St W' h' b T size css t (parC x kv) G ∧ Bts W' (.slice a (ackB bssL meL t x.ackS x.ackM).length c) (ackB bssL meL t x.ackS x.ackM) := by
  have ht := s.ht
  refine vc_muezzinref24_Station_answer _ _ _ _ ?_
  refine ⟨⟨by omega, by omega⟩, ints .u8 bssL, s.rbss, ints .u8 meL, s.rme, ?_⟩
  rw [show (t : Int).toNat = t from rfl]
  refine ⟨x.last, s.get 7 rfl, rfl, rfl, ?_⟩
  intro b1 g1 e1 e2
  replace s := s.push e1 e2
  refine ⟨⟨rfl, s.m.wrsb 1 rfl rfl, ackC_one bssL meL t x.last 1⟩, fun g2 e3 => ?_⟩
  have m2 := s.m.setr 1 rfl e3
  have s2 : St W g2 b T size css t (parC x kv) ([(b1, ackC bssL meL t x.last 1, 135)] :: G) := s.mem m2
  clear s m2
  refine ⟨x.on, s2.get0 rfl, bcase_intro (fun q => ?_) fun q => ?_⟩
  · have eS : x.ackS = x.fr := by unfold Ses.ackS; rw [q]; rfl
    have eM : x.ackM = x.bits := by unfold Ses.ackM; rw [q]; rfl
    rw [eS, eM]
    refine ⟨x.fr, s2.get 4 rfl, s2.m.wrb 1 rfl rfl, fun g3 e4 => ?_⟩
    have m3 := s2.m.setc 1 rfl e4
    have s3 : St W g3 b T size css t (parC x kv) ([(b1, ackC bssL meL t x.fr 1, 135)] :: G) := s2.mem m3
    refine ⟨x.bits, s3.get 5 rfl, s3.m.wrb 1 rfl rfl, fun g4 e5 => ?_⟩
    have m4 := s3.m.setc 1 rfl e5
    have s4 : St W g4 b T size css t (parC x kv) ([(b1, ackC bssL meL t x.fr x.bits, 135)] :: G) := s3.mem m4
    refine ⟨ackC bssL meL t x.fr x.bits, s4.m.row 1 rfl rfl (Nat.le_of_ble_eq_true rfl), ?_⟩
    refine (rackBytes_c (to := bssL) (fr := meL) s4.m rfl rfl ⟨by omega, by omega⟩ hx.f).mono ?_
    rintro _ g5 ⟨W', a', c', hle, rfl, m5, hb5⟩
    exact ⟨_, _, _, _, rfl, W', a', c', hle, rfl, (s4.mem m5).drop, hb5⟩
  · have eS : x.ackS = x.last := by unfold Ses.ackS; rw [q]; rfl
    have eM : x.ackM = 1 := by unfold Ses.ackM; rw [q]; rfl
    rw [eS, eM]
    refine ⟨ackC bssL meL t x.last 1, s2.m.row 1 rfl rfl (Nat.le_of_ble_eq_true rfl), ?_⟩
    refine (rackBytes_c (to := bssL) (fr := meL) s2.m rfl rfl ⟨by omega, by omega⟩ hx.l).mono ?_
    rintro _ g5 ⟨W', a', c', hle, rfl, m5, hb5⟩
    exact ⟨_, _, _, _, rfl, W', a', c', hle, rfl, (s2.mem m5).drop, hb5⟩
theorem Rp.st (r : Rp W h b T size css t x up bu Tu G) : ∃ kv G', St W h b T size css t (parC x kv) G' ∧ ∀ W' h', (∀ b o v, wcell W b o = some v → wcell W' b o = some v) → St W' h' b T size css t (parC x kv) G' → Rp W' h' b T size css t x up bu Tu G := by
  obtain ⟨a, c, E, vs, ua, uc, U, us, s, q1, q2, q3, q4⟩ := r
  exact ⟨_, _, s, fun W' h' hc s' => ⟨a, c, E, vs, ua, uc, U, us, s', q1, q2.mono fun f cs hv => fmv_cl hc hv, q3, q4.mono fun f cs hv => fmv_cl hc hv⟩⟩
theorem Ru.ans (r : Ru W h b T size xs up bu Tu G) (hx : xs[t]? = some x) (hok : SesOk x) :
    Runs Tryz.prog 59 #[.pointer (some ⟨b, 0, none⟩), .int .i64 (t : Int)] h fun v h' => ∃ W' a c, W.le W' ∧ v = .slice a (ackB bssL meL t x.ackS x.ackM).length c ∧ Ru W' h' b T size xs up bu Tu G ∧ Bts W' (.slice a (ackB bssL meL t x.ackS x.ackM).length c) (ackB bssL meL t x.ackS x.ackM) ∧ ∀ a c, cell h bu 0 = some (.slice a up.length c) → cell h' bu 0 = some (.slice a up.length c) := by
  obtain ⟨css, K, rp, back⟩ := r.at hx
  obtain ⟨a0, c0, E0, vs0, ua, uc, U, us, s, q1, q2, q3, q4⟩ := rp
  refine (ranswer_c s hok).mono ?_
  rintro _ h' ⟨W', a', c', hle, rfl, s', hb'⟩
  have hc := cl_le hle
  refine ⟨W', a', c', hle, rfl, ?_, hb', fun a c e => ?_⟩
  · have := back W' h' x up hc ⟨a0, c0, E0, vs0, ua, uc, U, us, s', q1, q2.mono fun f cs hv => fmv_cl hc hv, q3, q4.mono fun f cs hv => fmv_cl hc hv⟩
    rwa [set_same hx] at this
  · have e1 : cell h bu 0 = some (.slice ua up.length uc) := s.m.cell 3 rfl rfl
    rw [e1] at e
    cases e
    exact s'.m.cell 3 rfl rfl
end
end Go.Proofs.YtepodifionoigaaGreatDoor
