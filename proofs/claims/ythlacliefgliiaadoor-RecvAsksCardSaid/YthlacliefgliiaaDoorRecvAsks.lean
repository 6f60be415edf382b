/- RecvAsks: a session is of the lesser of both sizes; what was kept goes up when one is asked for anew, ends, or the station leaves. -/
import Derived.Test.YthlacliefgliiaaDoorWin
import Derived.Test.YthlacliefgliiaaDoorDel
import Derived.Test.YthlacliefgliiaaDoorAdd2
import Derived.Test.YthlacliefgliiaaDoorGenLAsks
set_option linter.unusedVariables false
set_option linter.unusedSimpArgs false
set_option maxRecDepth 8000
namespace Go.Proofs.YthlacliefgliiaaDoor
open Go.Vc
theorem gr_init {W0 W W' : Wd} {r : Nat} (h0 : W0.le W) (hr : W0 r = none) (hg : W.gr W' (some r)) : W0.le W' := fun b x e => hg b x (fun q => by cases q; rw [hr] at e; cases e) (h0 b x e)
theorem addSize_nat {z : Nat} {sz : Int} (hz : 1 ≤ z ∧ z ≤ 64) (h0 : 0 ≤ sz) : ∃ y : Nat, addSize z sz = y ∧ 1 ≤ y ∧ y ≤ 64 := by
  refine ⟨(addSize z sz).toNat, ?_, ?_, ?_⟩ <;> unfold addSize <;> split <;> omega
theorem got_bit {x : Ses} {S : Int} {d : Nat} (hon : x.on = true) (hf : x.fr = pos S 0) (hb : 0 ≤ x.bits ∧ x.bits < 18446744073709551616) (hd : d < 64) : x.got (pos S d) = x.bits.toNat.testBit d := by
  have hp := pos_bd (S := S) (k := d)
  have e : distZ x.fr (pos S d) = (d : Int) := by rw [hf, pos_dist (Nat.zero_le d) (by omega)]; omega
  unfold Ses.got
  rw [if_pos hon, e]
  unfold bitA
  rw [bit_at hb.1 hb.2]
  cases hq : x.bits.toNat.testBit d
  · simp
  · simp; omega
section
variable {W W' : Wd} {h h' : Heap} {b t j n c : Nat} {T : TypeId} {size : Int} {css : List (List Value)} {cs us vs : List Value} {G G' : List Grp} {v : Value} {f : Fm} {mv : Option Nat} {Q : Heap → Prop} {E : Grp}
/-- What is handed up in the end, of one frame that was kept. -/
def AskV (W : Wd) (b : Nat) (T : TypeId) (z : Int) (S : Int) (a : Option Addr) (l c : Nat) (h : Heap) : Prop :=
  l = 1 ∧ ∃ W' E vs x mv, W.le W' ∧ Ow a 1 c 24 vs E ∧ Sq (FmV W') [frO 3 S B1 1] vs ∧ KeptV W' mv [] ∧ St W' h b T z css0 3 (sesC x mv) (E :: []) ∧ x.kept = [] ∧ x.got (pos S 1) = false
theorem asks_r (size own seq how : Int) (hE : Snt5 W) (m : Me W h []) :
    Runs Tryd.prog 8 #[.int .i64 size, .int .i64 own, .int .i64 seq, .int .i64 how] h fun v h' => v = .bool true ∧ ∃ W', W.le W' ∧ Me W' h' [] := by
  refine vc_muezzinlaw24_RecvAsks _ _ _ _ _ _ ?_
  refine (first24_c hE m).mono ?_
  rintro _ h1 ⟨rfl, W1, hle1, m⟩
  refine ⟨true, rfl, bcase_false rfl ((number_c _ _ _ (by decide) (by decide)).ret ⟨_, rfl, ?_⟩)⟩
  obtain ⟨sz, hsz⟩ : ∃ sz, sz = size % 100 := ⟨_, rfl⟩
  have hszb : 0 ≤ sz ∧ sz ≤ 99 := by omega
  rw [← hsz]
  refine (number_c _ _ _ (by decide) (by decide)).ret ⟨_, rfl, by simp only [fits]; omega, ?_⟩
  obtain ⟨z, hz⟩ : ∃ z : Nat, own % 64 + 1 = z := ⟨(own % 64 + 1).toNat, by omega⟩
  have hz1 : 1 ≤ z ∧ z ≤ 64 := by omega
  rw [hz]
  refine (number_c _ _ _ (by decide) (by decide)).ret ⟨_, rfl, ?_⟩
  obtain ⟨S, hS⟩ : ∃ S, S = seq % 4096 := ⟨_, rfl⟩
  have hSb : 0 ≤ S ∧ S ≤ 4095 := by omega
  rw [← hS]
  refine (me_c m).mono ?_
  rintro _ h2 ⟨rfl, m⟩
  refine ⟨_, rfl, (bss_c m).mono ?_⟩
  rintro _ h3 ⟨rfl, m⟩
  refine ⟨_, rfl, (rnew_c m (by omega)).mono ?_⟩
  rintro _ h4 ⟨b, T, rfl, hs⟩
  have s := hs 3 (by decide)
  clear hs
  refine ⟨_, _, rfl, bcase_false rfl ⟨true, rfl, bcase_false rfl ?_⟩⟩
  refine (me_c s.m).mono ?_
  rintro _ h5 ⟨rfl, m5⟩
  refine ⟨_, rfl, (bss_c m5).mono ?_⟩
  rintro _ h6 ⟨rfl, m6⟩
  refine ⟨_, rfl, (bss_c m6).mono ?_⟩
  rintro _ h7 ⟨rfl, m7⟩
  refine ⟨_, rfl, rfl, rfl, rfl, ?_⟩
  refine (raddBytes_c (to := meL) (fr := bssL) (bss := bssL) (token := 77) (tid := ((3 : Nat) : Int)) (size := sz) (sq := S) m7 rfl rfl rfl ⟨by decide, by decide, by omega, hSb⟩ false (fun q => by cases q)).mono ?_
  rintro _ h8 ⟨W2, a8, c8, hle2, rfl, m8, hb8⟩
  replace s := s.mem m8
  have hE2 := (hE.le hle1).le hle2
  refine ⟨_, _, _, _, rfl, ?_⟩
  refine (other_add (x := ses0) (mv := none) (token := 77) (sz := sz) (sq := S) (t := 3) hE2 s rfl ses0_ok (by decide) (by omega) ⟨by decide, by decide, by omega, hSb⟩ hb8).mono ?_
  rintro _ h9 ⟨W3, r, a9, c9, E9, vs9, a10, c10, hle3, hr3, rfl, o9, hs9, hk9, hb9, s9⟩
  have hr0 : W r = none := by
    cases hW : W r with
    | none => rfl
    | some y => have := hle2 r y (hle1 r y hW); rw [hr3] at this; cases this
  obtain ⟨y, hy, hy1⟩ := addSize_nat hz1 hszb.1
  rw [hy] at hb9 s9
  refine ⟨_, _, _, _, _, _, rfl, ?_⟩
  have s10 := s9.drop
  have hle13 : W.le W3 := hle1.trans (hle2.trans hle3)
  refine (rreadAdd_c (to := bssL) (fr := meL) (bss := bssL) (token := 77) (tid := ((3 : Nat) : Int)) (size := (y : Int)) s10.m hb9 rfl rfl rfl ⟨by decide, by decide, by omega, by decide⟩).mono ?_
  rintro _ h11 ⟨rfl, W4, hle4, m11⟩
  have s11 := s10.mem m11
  refine ⟨_, _, rfl, ?_⟩
  intro b1 h12 e1 e2
  have s12 := s11.push e1 e2
  refine ⟨⟨rfl, s12.m.wrsb 1 rfl rfl, addC_one _ _ _ _ _ _ _ _⟩, fun h13 e3 => ?_⟩
  have s13 : St W4 h13 b T z css0 3 (sesC (newSes y S) (some r)) ([(b1, addC bssL meL bssL true 77 ((3 : Nat) : Int) (y : Int) 0, 65)] :: []) := s12.mem (me_swap (me_setAll (us := addC bssL meL bssL true 77 ((3 : Nat) : Int) (y : Int) 0) (me_swap s12.m) rfl e3))
  have hk13 : KeptV W4 (some r) [] := hk9.le hle4
  refine ⟨fun w h => w = (y : Int) ∧ h = h13, dcase_intro (fun q => ⟨by rw [← hy]; exact (if_pos q).symm, rfl⟩) (fun q => ⟨by rw [← hy]; exact (if_neg q).symm, rfl⟩), fun _ => ?_⟩
  rintro _ h13 ⟨rfl, rfl⟩
  refine (session_c s13).ret ⟨S, (y : Int), true, if_pos rfl, ?_⟩
  refine ⟨fun v h => v = false ∧ h = h13, bcase_false rfl ⟨true, s13.m.cell 1 rfl rfl, rfl, rfl⟩, fun _ => ?_⟩
  rintro _ h13 ⟨rfl, rfl⟩
  refine ⟨fun v h => v = false ∧ h = h13, bcase_false rfl ⟨77, s13.m.cell 1 rfl rfl, rfl, rfl⟩, fun _ => ?_⟩
  rintro _ h13 ⟨rfl, rfl⟩
  refine ⟨fun v h => v = false ∧ h = h13, bcase_false rfl ⟨3, s13.m.cell 1 rfl rfl, rfl, rfl⟩, fun _ => ?_⟩
  rintro _ h13 ⟨rfl, rfl⟩
  refine ⟨fun v h => v = false ∧ h = h13, bcase_false rfl ⟨(y : Int), s13.m.cell 1 rfl rfl, by simp, rfl⟩, fun _ => ?_⟩
  rintro _ h13 ⟨rfl, rfl⟩
  refine ⟨fun v h => v = false ∧ h = h13, bcase_false rfl ⟨0, s13.m.cell 1 rfl rfl, rfl, rfl⟩, fun _ => ?_⟩
  rintro _ h13 ⟨rfl, rfl⟩
  refine ⟨fun v h => v = false ∧ h = h13, bcase_false rfl ⟨rfl, rfl⟩, fun _ => ?_⟩
  rintro _ h13 ⟨rfl, rfl⟩
  refine ⟨fun v h => v = false ∧ h = h13, bcase_false rfl ⟨by simp, rfl⟩, fun _ => ?_⟩
  rintro _ h13 ⟨rfl, rfl⟩
  refine bcase_false rfl (bcase_false (by simp) ?_)
  have s14 := s13.drop
  refine dcase_intro (fun q => ⟨rfl, W4, hle13.trans hle4, s14.m.drop1⟩) fun q => ?_
  intro b2 h14 e4 e5
  obtain ⟨W5, hle5, m15, hb15⟩ := bts_one (me_swap (s14.push e4 e5).m)
  have s15 := s14.mem m15
  refine ⟨by simp only [fits]; omega, ?_⟩
  refine (data_c (tid := ((3 : Nat) : Int)) (rt := false) s15.m hb15 (by decide) (by show 1 ≤ 1500; decide)).mono ?_
  rintro _ h16 ⟨W6, a16, c16, hle6, rfl, m16, hb16⟩
  have s16 := s15.mem m16
  rw [show (S + 1) % 4096 = pos S 1 from rfl] at hb16 ⊢
  have hfr : dfm ((3 : Nat) : Int) (pos S 1) false [1] = frO 3 S B1 1 := rfl
  refine ⟨_, _, _, rfl, ?_⟩
  have hw0 : Win 3 B1 S y 0 [] (newSes y S) := newSes_win hSb (by omega)
  obtain ⟨mm, ks', hout, w', hbits, hmi, hks'⟩ := hw0.take (q := 1) (by decide) (fun k => by show 1 ≤ 1500; decide) (by omega) (by omega) (by omega) (by omega) (by simp)
  have hm0 : mm = 0 := by
    refine Nat.eq_zero_of_not_pos fun hp => ?_
    rcases ins_mem.1 (hmi 0 hp).2 with h | h
    · simp at h
    · omega
  subst hm0
  have hks2 : ks' = [1] := by
    rcases hks' with ⟨h1, -, -⟩ | ⟨-, rfl, -⟩
    · omega
    · rw [cut_zero]; unfold ins; rw [if_neg (by simp)]; rfl
  subst hks2
  have hk16 : KeptV W6 (some r) (newSes y S).kept := (hk13.le hle5).le hle6
  refine (recvData_c (x := newSes y S) (mv := some r) (t := 3) (sq := pos S 1) (rt := false) (body := [1]) s16 hk16 (fun _ => by simp) hb16 pos_bd (by show 1 ≤ 1500; decide) (take_on hw0.on hw0.ok) (by rw [hfr]; exact w'.ok) (by rw [hfr, hout]; show (0 : Nat) ≤ 65536; decide)).mono ?_
  rw [hfr, hout]
  rintro _ h17 ⟨W7, a17, c17, E17, vs17, a18, c18, hg, rfl, o17, hs17, hk17, hb17, s17⟩
  obtain ⟨x, hx⟩ : ∃ x, x = ((newSes y S).take (frO 3 S B1 1)).2 := ⟨_, rfl⟩
  rw [← hx] at w' hk17 hb17 s17 hbits
  refine ⟨_, _, _, _, _, _, rfl, ?_⟩
  have s18 := s17.drop
  have hle7 : W.le W7 := gr_init (hle13.trans (hle4.trans (hle5.trans hle6))) hr0 hg
  have hkx : x.kept = [frO 3 S B1 1] := w'.kp
  have hb0 : 0 ≤ x.bits ∧ x.bits < 18446744073709551616 := w'.ok.b
  have hbb : ∀ d, x.bits.toNat.testBit d = decide (1 = d) := fun d => by
    rw [hbits, show (newSes (y : Int) S).bits = 0 from rfl, bit_or (by decide) (by decide) (by decide)]
    show (Nat.testBit 0 d || _) = _
    simp
  have hg1 : x.got (pos S 1) = true := by rw [got_bit w'.on w'.fr hb0 (by decide), hbb]; rfl
  have hg0 : x.got (pos S 0) = false := by rw [got_bit w'.on w'.fr hb0 (by decide), hbb]; rfl
  have hpS : S = pos S 0 := by unfold pos; omega
  have hadd : addZ S 1 = pos S 1 := rfl
  refine ⟨fun v h => v = false ∧ h = h17, ?_, fun _ => ?_⟩
  · refine (waits_c s18 hk17).ret ⟨_, rfl, bcase_false (by rw [hkx]; rfl) ((radd_c _ _ _).ret ⟨_, rfl, (got_c s18 _).ret ⟨_, rfl, ?_, rfl⟩⟩)⟩
    rw [hadd, hg1]; rfl
  rintro _ h17 ⟨rfl, rfl⟩
  refine bcase_false rfl ((got_c s18 _).ret ⟨_, rfl, bcase_false (by rw [← hg0, ← hpS]) ?_⟩)
  have hb8' : Bts W7 (.slice a8 33 c8) (askAdd meL bssL bssL 77 ((3 : Nat) : Int) sz S) := bts_cl (kept_cl hk16 hg) ((((hb8.le hle3).le hle4).le hle5).le hle6)
  have hE7 := hE.le hle7
  have h1k : x.kept.length ≤ 1 := by rw [hkx]; exact Nat.le_refl 1
  have h1e : x.kept.length = 1 := by rw [hkx]; rfl
  refine ⟨AskV W b T z S, (number_c _ _ _ (by decide) (by decide)).ret ⟨_, rfl, dcase_intro (fun q0 => ?_) fun q0 => dcase_intro (fun q1 => ?_) fun q1 => ?_⟩, fun _ => ?_⟩
  · refine (other_add (x := x) (mv := some r) (token := 77) (sz := sz) (sq := S) (t := 3) hE7 s18 hk17 w'.ok h1k (by omega) ⟨by decide, by decide, by omega, hSb⟩ hb8').mono ?_
    rintro _ h20 ⟨W8, r8, a20, c20, E20, vs20, a21, c21, hle8, hr8, rfl, o20, hs20, hk20, hb20, s20⟩
    refine ⟨_, _, _, _, _, _, rfl, h1e, W8, E20, vs20, _, _, hle7.trans hle8, ?_, ?_, hk20, s20, rfl, ?_⟩
    · rw [← h1e]; exact o20
    · rw [← hkx]; exact hs20
    · rw [got_bit rfl hpS ⟨show 0 ≤ (0 : Int) by decide, show (0 : Int) < 18446744073709551616 by decide⟩ (by decide)]; show Nat.testBit 0 1 = false; decide
  · refine (me_c s18.m).mono ?_
    rintro _ h20 ⟨rfl, m20⟩
    refine ⟨_, rfl, (bss_c m20).mono ?_⟩
    rintro _ h21 ⟨rfl, m21⟩
    refine ⟨_, rfl, (bss_c m21).mono ?_⟩
    rintro _ h22 ⟨rfl, m22⟩
    refine ⟨_, rfl, rfl, rfl, rfl, ?_⟩
    refine (rdelBytes_c (to := meL) (fr := bssL) (bss := bssL) (tid := ((3 : Nat) : Int)) m22 rfl rfl rfl (by decide)).mono ?_
    rintro _ h23 ⟨W8, a23, c23, hle8, rfl, m23, hb23⟩
    have s23 := s18.mem m23
    refine ⟨_, _, _, _, rfl, ?_⟩
    refine (other_del (x := x) (mv := some r) (t := 3) (hE7.le hle8) s23 (hk17.le hle8) w'.ok h1k hb23).mono ?_
    rintro _ h24 ⟨W9, a24, c24, E24, vs24, hle9, rfl, o24, hs24, s24⟩
    refine ⟨_, _, _, _, _, _, rfl, h1e, W9, E24, vs24, ses0, none, hle7.trans (hle8.trans hle9), ?_, ?_, rfl, s24, rfl, rfl⟩
    · rw [← h1e]; exact o24
    · rw [← hkx]; exact hs24
  · refine (leave1_c s18 hk17 w'.ok h1k).mono ?_
    rintro _ h24 ⟨W9, a24, c24, E24, vs24, hle9, rfl, o24, hs24, s24⟩
    refine ⟨_, _, _, rfl, h1e, W9, E24, vs24, ses0, none, hle7.trans hle9, ?_, ?_, rfl, s24, rfl, rfl⟩
    · rw [← h1e]; exact o24
    · rw [← hkx]; exact hs24
  · rintro ua ul uc h30 ⟨rfl, W8, E8, vs8, x8, mv8, hle8, o8, hs8, hk8, s8, hkx8, hg8⟩
    obtain ⟨bq, oq, hbq, hc19, sa, sc, hc23, hbd⟩ := sq_cell (i := 1) (j := 0) (f := frO 3 S B1 1) (out := [frO 3 S B1 1]) o8 s8.m rfl hs8 (fun f hf => by rw [List.mem_singleton] at hf; subst hf; exact dfm_ok (by decide) pos_bd (by show 1 ≤ 1500; decide)) rfl
    subst hbq
    replace hc23 : cell h30 bq (oq + 0 * 24 + 23) = some (.slice sa 1 sc) := hc23
    obtain ⟨bb, ob, rfl, -, -, hxb⟩ := bts_opn hbd (by show 0 < 1; decide)
    refine ⟨fun v h => v = true ∧ h = h30, bcase_true rfl ⟨rfl, rfl⟩, fun _ => ?_⟩
    rintro _ h30 ⟨rfl, rfl⟩
    refine ⟨fun v h => v = true ∧ h = h30, bcase_true rfl ⟨⟨by decide, by decide⟩, some ⟨bb, ob, none⟩, 1, sc, by simpa using hc23, ⟨by decide, by decide⟩, 1, s8.m.wcell (by simpa using hxb 0 1 rfl), rfl, rfl⟩, fun _ => ?_⟩
    rintro _ h30 ⟨rfl, rfl⟩
    refine ⟨fun v h => v = true ∧ h = h30, bcase_true rfl ((waits_c s8 (by rw [hkx8]; exact hk8)).ret ⟨_, rfl, by rw [hkx8]; rfl, rfl⟩), fun _ => ?_⟩
    rintro _ h30 ⟨rfl, rfl⟩
    refine bcase_true rfl ((radd_c _ _ _).ret ⟨_, rfl, (got_c s8 _).ret ⟨_, rfl, ?_, W8, hle8, s8.m.drop1.drop1⟩⟩)
    rw [hadd, hg8]; rfl
end
theorem walk_RecvAsks (w : World) (hE : Snt5 (Wd.of w.heap)) (a0 : Int) (w0 : (Lit.int .i64 a0).wf = true) (a1 : Int) (w1 : (Lit.int .i64 a1).wf = true) (a2 : Int) (w2 : (Lit.int .i64 a2).wf = true) (a3 : Int) (w3 : (Lit.int .i64 a3).wf = true) :
    Calls Tryd.prog 8 #[.int .i64 a0, .int .i64 a1, .int .i64 a2, .int .i64 a3] w fun e w' => e = .returned (.bool true) ∧ Go.RowKit.Below w.heap.size w w' := by
  refine calls_of_runs ((asks_r a0 a1 a2 a3 hE (Me.start w.heap)).mono ?_)
  rintro v h' ⟨rfl, W', hle, m⟩
  exact ⟨rfl, m.kept hle⟩
end Go.Proofs.YthlacliefgliiaaDoor
