/- The conditions for calls of functions of the program, in plain form: written by a program (vcgen) off the elaborated code; each is the reckoner's own, by the kernel. -/
import Derived.Test.YthlacliefgliiaaDoorRows
import Derived.Test.YthlacliefgliiaaDoorVc
set_option linter.unusedVariables false
set_option maxRecDepth 100000
namespace Go.Proofs.YthlacliefgliiaaDoor
open Go.Vc
theorem vc_muezzinlaw24_RecvStrange (f : List Value) (agg : Bool) (bit : Int) (h0 : Heap) (Post : Value → Heap → Prop) (H :
∀ (b1 : Nat) (h1 : Heap), b1 = h0.size → h1 = h0.push (.cells (f).toArray 55) →
Runs Tryd.prog 9 #[] h1 fun r1 h2 =>
∃ t1 : Bool,
r1 = (.bool t1) ∧
bcase (!t1) (
Post (.bool false) h2) (
∃ (s1 : Option Addr) (s1l s1c : Nat), cell h2 b1 23 = some (.slice s1 s1l s1c) ∧
bcase (decide ((100 : Int) < ((s1l : Nat) : Int))) (
Post (.bool t1) h2) (
Runs Tryd.prog 11 #[] h2 fun r2 h3 =>
∃ cs1 : List Value,
r2 = (.agg (cs1).toArray) ∧
Runs Tryd.prog 12 #[] h3 fun r3 h4 =>
∃ cs2 : List Value,
r3 = (.agg (cs2).toArray) ∧
Runs Tryd.prog 10 #[(.agg (cs1).toArray), (.agg (cs2).toArray), (.int .i64 (8 : Int))] h4 fun r4 h5 =>
∃ p1 : Option Addr,
∃ v1 : Value,
r4 = (.tuple #[(.pointer p1), v1]) ∧
∃ cs3 : List Value, row h5 b1 0 24 = some cs3 ∧
Runs Tryd.prog 22 #[(.agg (cs3).toArray)] h5 fun r5 h6 =>
∃ (s2 : Option Addr) (s2l s2c : Nat),
∃ n1 : Int,
r5 = (.tuple #[(.slice s2 s2l s2c), (.int .i64 n1)]) ∧
∃ J1 : Bool → Heap → Prop, (
bcase (isNilAddr p1) (
J1 true h6) (
∃ t2 : Bool, ifeqH Tryd.prog h6 true (v1) (.nilIface) = some t2 ∧
J1 (!t2) h6)) ∧ ∀ _ : Env,
∀ (x1 : Bool) (h7 : Heap), J1 x1 h7 →
bcase x1 (
∃ J2 : Bool → Heap → Prop, (
bcase t1 (
J2 (!(isNilAddr p1)) h7) (
J2 false h7)) ∧ ∀ _ : Env,
∀ (x2 : Bool) (h8 : Heap), J2 x2 h8 →
bcase x2 (
∃ t3 : Bool, ifeqH Tryd.prog h8 true (v1) (.nilIface) = some t3 ∧
Post (.bool t3) h8) (
Post (.bool false) h8)) (
bcase (!decide (n1 = (0 : Int))) (
∃ J3 : Bool → Heap → Prop, (
bcase t1 (
J3 (!(isNilAddr p1)) h7) (
J3 false h7)) ∧ ∀ _ : Env,
∀ (x3 : Bool) (h9 : Heap), J3 x3 h9 →
bcase x3 (
∃ t4 : Bool, ifeqH Tryd.prog h9 true (v1) (.nilIface) = some t4 ∧
Post (.bool t4) h9) (
Post (.bool false) h9)) (
∃ J4 : Heap → Prop, (
∃ cs4 : List Value, row h7 b1 0 6 = some cs4 ∧
Runs Tryd.prog 11 #[] h7 fun r6 h10 =>
∃ cs5 : List Value,
r6 = (.agg (cs5).toArray) ∧
row h10 b1 0 6 = some (cs4) ∧
Runs Tryd.prog 17 #[(.agg (cs4).toArray), (.agg (cs5).toArray)] h10 fun r7 h11 =>
∃ t5 : Bool,
r7 = (.bool t5) ∧
bcase t5 (
∃ cs6 : List Value, row h11 b1 6 6 = some cs6 ∧
Runs Tryd.prog 12 #[] h11 fun r8 h12 =>
∃ cs7 : List Value,
r8 = (.agg (cs7).toArray) ∧
row h12 b1 6 6 = some (cs6) ∧
Runs Tryd.prog 17 #[(.agg (cs6).toArray), (.agg (cs7).toArray)] h12 fun r9 h13 =>
∃ t6 : Bool,
r9 = (.bool t6) ∧
bcase t6 (
Runs Tryd.prog 13 #[(.int .i64 bit), (.int .i64 (48 : Int))] h13 fun r10 h14 =>
∃ n2 : Int,
r10 = (.int .i64 n2) ∧
(0 ≤ n2 ∧ 0 < (8 : Int) ∧ fits .i64 (n2 / (8 : Int))) ∧
fits .i64 ((4 : Int) + (n2 / (8 : Int))) ∧
(0 ≤ n2 ∧ 0 < (8 : Int) ∧ fits .i64 (n2 / (8 : Int))) ∧
fits .i64 ((4 : Int) + (n2 / (8 : Int))) ∧
(0 ≤ ((4 : Int) + (n2 / (8 : Int))) ∧ ((4 : Int) + (n2 / (8 : Int))) < ((s2l : Nat) : Int)) ∧
onAddr s2 fun b2 o1 =>
∃ n3 : Int, cell h14 b2 (o1 + (((4 : Int) + (n2 / (8 : Int)))).toNat) = some (.int .u8 n3) ∧
(0 ≤ n2 ∧ 0 < (8 : Int)) ∧
fits .u64 (n2 % (8 : Int)) ∧
(0 ≤ (n2 % (8 : Int)) ∧ (n2 % (8 : Int)) ≤ kbits .u8) ∧
fits .u8 ((1 : Int) * (pow2 (n2 % (8 : Int)))) ∧
(0 ≤ ((4 : Int) + (n2 / (8 : Int))) ∧ ((4 : Int) + (n2 / (8 : Int))) < ((s2l : Nat) : Int)) ∧
onAddr s2 fun b3 o2 =>
wr h14 b3 (o2 + (((4 : Int) + (n2 / (8 : Int)))).toNat) ∧ ∀ h15 : Heap, h15 = setc h14 b3 (o2 + (((4 : Int) + (n2 / (8 : Int)))).toNat) (.int .u8 (bits .xor .u8 n3 ((1 : Int) * (pow2 (n2 % (8 : Int)))))) →
J4 h15) (
J4 h13)) (
J4 h11)) ∧ ∀ _ : Env,
∀ (h16 : Heap), J4 h16 →
∃ J5 : Option Addr → Nat → Nat → Heap → Prop, (
bcase agg (
∀ (b4 : Nat) (h17 : Heap), b4 = h16.size → h17 = h16.push (.cells ([(.slice s2 s2l s2c)] : List Value).toArray 35) →
Runs Tryd.prog 23 #[(.slice (some ⟨b4, 0, none⟩) 1 1)] h17 fun r11 h18 =>
∃ (s3 : Option Addr) (s3l s3c : Nat),
∃ n4 : Int,
r11 = (.tuple #[(.slice s3 s3l s3c), (.int .i64 n4)]) ∧
J5 s3 s3l s3c h18) (
J5 s2 s2l s2c h16)) ∧ ∀ _ : Env,
∀ (b_1 : Option Addr) (b_1l b_1c : Nat) (h19 : Heap), J5 b_1 b_1l b_1c h19 →
Runs Tryd.prog 14 #[(.pointer p1), (.bool agg), (.slice b_1 b_1l b_1c)] h19 fun r12 h20 =>
∃ (s4 : Option Addr) (s4l s4c : Nat),
∃ (s5 : Option Addr) (s5l s5c : Nat),
r12 = (.tuple #[(.slice s4 s4l s4c), (.slice s5 s5l s5c)]) ∧
Runs Tryd.prog 24 #[(.pointer p1), (.slice b_1 b_1l b_1c)] h20 fun r13 h21 =>
∃ (s6 : Option Addr) (s6l s6c : Nat),
∃ (s7 : Option Addr) (s7l s7c : Nat),
r13 = (.tuple #[(.slice s6 s6l s6c), (.slice s7 s7l s7c)]) ∧
∃ J6 : Bool → Heap → Prop, (
bcase t1 (
J6 (decide (((s4l : Nat) : Int) = (0 : Int))) h21) (
J6 false h21)) ∧ ∀ _ : Env,
∀ (x5 : Bool) (h22 : Heap), J6 x5 h22 →
∃ J7 : Bool → Heap → Prop, (
bcase x5 (
J7 (decide (((s5l : Nat) : Int) = (0 : Int))) h22) (
J7 false h22)) ∧ ∀ _ : Env,
∀ (x6 : Bool) (h23 : Heap), J7 x6 h23 →
∃ J8 : Bool → Heap → Prop, (
bcase x6 (
J8 (decide (((s6l : Nat) : Int) = (0 : Int))) h23) (
J8 false h23)) ∧ ∀ _ : Env,
∀ (x7 : Bool) (h24 : Heap), J8 x7 h24 →
∃ J9 : Bool → Heap → Prop, (
bcase x7 (
J9 (decide (((s7l : Nat) : Int) = (0 : Int))) h24) (
J9 false h24)) ∧ ∀ _ : Env,
∀ (x8 : Bool) (h25 : Heap), J9 x8 h25 →
bcase x8 (
∃ n5 : Int, cell h25 b1 18 = some (.int .i64 n5) ∧
∃ n6 : Int, cell h25 b1 19 = some (.int .i64 n6) ∧
Runs Tryd.prog 21 #[(.pointer p1), (.int .i64 n5), (.int .i64 n6)] h25 fun r14 h26 =>
∃ t7 : Bool,
r14 = (.bool t7) ∧
Post (.bool (!t7)) h26) (
Post (.bool false) h25)))))) :
    Runs Tryd.prog 4 #[(.agg (f).toArray), (.bool agg), (.int .i64 bit)] h0 Post :=
  runs_of (args := [(.agg (f).toArray), (.bool agg), (.int .i64 bit)]) (fun n => ⟨true, false⟩) (fun _ => []) (fun n => match n with | 13 => some [] | 15 => some [(10, .slice)] | _ => none) (fun n => match n with | 8 => [(6, [(41, .bool)])] | 9 => [(5, [(50, .bool)])] | 17 => [(6, [(108, .bool)]), (5, [(113, .bool)]), (5, [(118, .bool)]), (5, [(123, .bool)])] | _ => []) Tryd.func4 rfl (by rw [Tryd.ntmps4]; simp) (Eq.mp (by kernel_rfl) H)
end Go.Proofs.YthlacliefgliiaaDoor
