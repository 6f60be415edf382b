/- What a pool is told, as it comes in. -/
import Derived.Test.YtpcilleldanfmaaDoorOpnPk
set_option linter.unusedVariables false
set_option linter.unusedSimpArgs false
namespace Go.Proofs.YtpcilleldanfmaaDoor
open Go.Vc
structure Dp where
  kind : Int
  a : Int
  b : Int
  n : Int
  p : Pk
def DpV (W : Wd) (x : Dp) (cs : List Value) : Prop := ∃ pa pc, cs = [.int .i64 x.kind, .int .i64 x.a, .int .i64 x.b, .int .i64 x.n, .int .i64 x.p.id, .int .u32 x.p.flow, .int .i64 x.p.tid, .int .i64 x.p.at_, .slice pa x.p.body.length pc] ∧ Bts W (.slice pa x.p.body.length pc) x.p.body
theorem DpV.len {W : Wd} {x : Dp} {cs : List Value} (h : DpV W x cs) : cs.length = 9 := by obtain ⟨a, c, rfl, _⟩ := h; rfl
theorem dp_at {l : List Dp} {a : Option Addr} {vs : List Value} {h : Heap} {W : Wd} (hs : src h a (l.length * 9) vs) (hq : Sq (DpV W) l vs) {i : Nat} {x : Dp} (hx : l[i]? = some x) :
    ∃ b o pa pc, a = some ⟨b, o, none⟩ ∧ Bts W (.slice pa x.p.body.length pc) x.p.body ∧ ∀ h', Kept h h' → row h' b (o + i * 9) 9 = some [.int .i64 x.kind, .int .i64 x.a, .int .i64 x.b, .int .i64 x.n, .int .i64 x.p.id, .int .u32 x.p.flow, .int .i64 x.p.tid, .int .i64 x.p.at_, .slice pa x.p.body.length pc] := by
  obtain ⟨cs, hcv, hrow, hrl⟩ := hq.get (fun _ _ => DpV.len) hx
  obtain ⟨pa, pc, rfl, hbt⟩ := hcv
  obtain ⟨b, o, e, hr⟩ := src_part (k := i * 9) (n := 9) hs hrl (by decide) hrow
  refine ⟨b, o, pa, pc, e, hbt, fun h' kk => ?_⟩
  obtain ⟨b', o', e', hr'⟩ := src_part (k := i * 9) (n := 9) (kk.src hs) hrl (by decide) hrow
  rw [e] at e'; cases e'
  exact hr'
theorem opn_dp {W : Wd} {cs : List Value} (o : Opn (.con (.int .i64) (.con (.int .i64) (.con (.int .i64) (.con (.int .i64) (.con pkS .nil))))) W cs) : ∃ x, DpV W x cs := by
  obtain ⟨hl, ⟨kd, e1, _⟩, _, ⟨a, e2, _⟩, _, ⟨b, e3, _⟩, _, ⟨n, e4, _⟩, _, op, _⟩ := o
  match cs, hl with
  | [c0, c1, c2, c3, c4, c5, c6, c7, c8], _ =>
    obtain ⟨p, ⟨pa, pc, e5, hb⟩, _⟩ := opn_pk op
    simp [Sh1.size, pkS] at e1 e2 e3 e4 e5
    obtain ⟨rfl, rfl, rfl, rfl, rfl⟩ := e5
    subst e1 e2 e3 e4
    exact ⟨⟨kd, a, b, n, p⟩, pa, pc, rfl, hb⟩
theorem opn_dps {W : Wd} {a : Option Addr} {len cap : Nat} (o : Opn (.slc (.con (.int .i64) (.con (.int .i64) (.con (.int .i64) (.con (.int .i64) (.con pkS .nil)))))) W [.slice a len cap]) : ∃ (l : List Dp) (vs : List Value), l.length = len ∧ wsrc W a (len * 9) vs ∧ Sq (DpV W) l vs := by
  obtain ⟨a', len', cap', vs, e, h1, h2, h3, h4, h5⟩ := o
  cases e
  obtain ⟨l, hl, hx⟩ := choose_l len fun i hi => opn_dp (h5 i hi)
  exact ⟨l, vs, hl, h4, sq_of (by rw [hl]; exact h3) fun i x hi => hx i x hi⟩
def bools (l : List Bool) : List Value := l.map Value.bool
theorem bools_get {l : List Bool} {i : Nat} {x : Bool} (h : l[i]? = some x) : (bools l)[i]? = some (.bool x) := by simp [bools, h]
theorem bools_set {l : List Bool} {i : Nat} {x : Bool} : (bools l).set i (.bool x) = bools (l.set i x) := by simp [bools, List.map_set]
theorem bools_len {l : List Bool} : (bools l).length = l.length := by simp [bools]
end Go.Proofs.YtpcilleldanfmaaDoor
