/- The conditions for calls of functions of the program, in plain form: written by a program (vcgen) off the elaborated code; each is the reckoner's own, by the kernel. -/
import Derived.Test.YthlacliefgliiaaDoorRows
import Derived.Test.YthlacliefgliiaaDoorVc
set_option linter.unusedVariables false
set_option maxRecDepth 100000
namespace Go.Proofs.YthlacliefgliiaaDoor
open Go.Vc
theorem vc_muezzinlaw24_RecvBars (start : Int) (l : Option Addr) (lL lC : Nat) (to_ : Int) (h0 : Heap) (Post : Value → Heap → Prop) (H :
Runs Tryd.prog 9 #[] h0 fun r1 h1 =>
∃ t1 : Bool,
r1 = (.bool t1) ∧
bcase (!t1) (
Post (.bool false) h1) (
Runs Tryd.prog 13 #[(.int .i64 start), (.int .i64 (4096 : Int))] h1 fun r2 h2 =>
∃ n1 : Int,
r2 = (.int .i64 n1) ∧
Runs Tryd.prog 13 #[(.int .i64 to_), (.int .i64 (64 : Int))] h2 fun r3 h3 =>
∃ n2 : Int,
r3 = (.int .i64 n2) ∧
bcase (decide ((30 : Int) < ((lL : Nat) : Int))) (
Post (.bool t1) h3) (
Runs Tryd.prog 11 #[] h3 fun r4 h4 =>
∃ cs1 : List Value,
r4 = (.agg (cs1).toArray) ∧
Runs Tryd.prog 12 #[] h4 fun r5 h5 =>
∃ cs2 : List Value,
r5 = (.agg (cs2).toArray) ∧
Runs Tryd.prog 10 #[(.agg (cs1).toArray), (.agg (cs2).toArray), (.int .i64 (64 : Int))] h5 fun r6 h6 =>
∃ p1 : Option Addr,
∃ v1 : Value,
r6 = (.tuple #[(.pointer p1), v1]) ∧
bcase (isNilAddr p1) (
Post (.bool false) h6) (
∃ t2 : Bool, ifeqH Tryd.prog h6 true (v1) (.nilIface) = some t2 ∧
bcase (!t2) (
Post (.bool false) h6) (
Runs Tryd.prog 11 #[] h6 fun r7 h7 =>
∃ cs3 : List Value,
r7 = (.agg (cs3).toArray) ∧
Runs Tryd.prog 12 #[] h7 fun r8 h8 =>
∃ cs4 : List Value,
r8 = (.agg (cs4).toArray) ∧
Runs Tryd.prog 12 #[] h8 fun r9 h9 =>
∃ cs5 : List Value,
r9 = (.agg (cs5).toArray) ∧
(cs3).length = 6 ∧
(cs4).length = 6 ∧
(cs5).length = 6 ∧
Runs Tryd.prog 25 #[(.agg (((cs3) ++ ((cs4) ++ ((cs5) ++ ([(.bool false), (.int .i64 (0 : Int)), (.int .i64 (0 : Int)), (.int .i64 (0 : Int)), (.int .i64 (0 : Int)), (.int .i64 n1), (.int .i64 (0 : Int))] : List Value))))).toArray)] h9 fun r10 h10 =>
∃ (s1 : Option Addr) (s1l s1c : Nat),
∃ n3 : Int,
r10 = (.tuple #[(.slice s1 s1l s1c), (.int .i64 n3)]) ∧
Runs Tryd.prog 24 #[(.pointer p1), (.slice s1 s1l s1c)] h10 fun r11 h11 =>
∃ (s2 : Option Addr) (s2l s2c : Nat),
∃ (s3 : Option Addr) (s3l s3c : Nat),
r11 = (.tuple #[(.slice s2 s2l s2c), (.slice s3 s3l s3c)]) ∧
(0 ≤ (65 : Int) ∧ (65 : Int) ≤ (65 : Int) ∧ ((1 : Nat) : Int) * (65 : Int) ≤ 281474976710656 ∧ (65 : Int) ≤ 9223372036854775807) ∧ ∀ (b1 : Nat) (h12 : Heap), b1 = h11.size → h12 = h11.push (.cells (joinL (List.replicate 65 [(.bool false)])).toArray 4) →
∃ (I1 : Int → Heap → Prop) (m1 : Int → Heap → Nat), I1 (0 : Int) h12 ∧ ∀ _ : Env,
∀ (i_1 : Int) (h13 : Heap), I1 i_1 h13 →
bcase (decide (i_1 < ((lL : Nat) : Int))) (
(0 ≤ i_1 ∧ i_1 < ((lL : Nat) : Int)) ∧
onAddr l fun b2 o1 =>
∃ n4 : Int, cell h13 b2 (o1 + (i_1).toNat) = some (.int .i64 n4) ∧
Runs Tryd.prog 13 #[(.int .i64 n4), (.int .i64 (63 : Int))] h13 fun r12 h14 =>
∃ n5 : Int,
r12 = (.int .i64 n5) ∧
fits .i64 (n5 + (1 : Int)) ∧
fits .u8 (n5 + (1 : Int)) ∧
∀ (b3 : Nat) (h15 : Heap), b3 = h14.size → h15 = h14.push (.cells ([(.int .u8 (n5 + (1 : Int)))] : List Value).toArray 5) →
fits .i64 (n1 + (n5 + (1 : Int))) ∧
Runs Tryd.prog 15 #[(.agg #[(.int .i64 (0 : Int)), (.int .i64 (0 : Int)), (.int .i64 (0 : Int)), (.int .i64 (0 : Int)), (.bool false), (.bool false), (.int .u32 (0 : Int)), (.slice (some ⟨b3, 0, none⟩) 1 1)]), (.int .i64 (n1 + (n5 + (1 : Int))))] h15 fun r13 h16 =>
∃ (s4 : Option Addr) (s4l s4c : Nat),
r13 = (.slice s4 s4l s4c) ∧
Runs Tryd.prog 14 #[(.pointer p1), (.bool false), (.slice s4 s4l s4c)] h16 fun r14 h17 =>
∃ (s5 : Option Addr) (s5l s5c : Nat),
∃ (s6 : Option Addr) (s6l s6c : Nat),
r14 = (.tuple #[(.slice s5 s5l s5c), (.slice s6 s6l s6c)]) ∧
(0 ≤ (n5 + (1 : Int)) ∧ (n5 + (1 : Int)) < ((65 : Nat) : Int)) ∧
wr h17 b1 (0 + ((n5 + (1 : Int))).toNat) ∧ ∀ h18 : Heap, h18 = setc h17 b1 (0 + ((n5 + (1 : Int))).toNat) (.bool true) →
fits .i64 (i_1 + (1 : Int)) ∧
I1 (i_1 + (1 : Int)) h18 ∧ m1 (i_1 + (1 : Int)) h18 < m1 i_1 h13) (
Runs Tryd.prog 11 #[] h13 fun r15 h19 =>
∃ cs6 : List Value,
r15 = (.agg (cs6).toArray) ∧
Runs Tryd.prog 12 #[] h19 fun r16 h20 =>
∃ cs7 : List Value,
r16 = (.agg (cs7).toArray) ∧
Runs Tryd.prog 27 #[(.int .i64 n1), (.int .i64 n2)] h20 fun r17 h21 =>
∃ n6 : Int,
r17 = (.int .i64 n6) ∧
(cs6).length = 6 ∧
(cs7).length = 6 ∧
Runs Tryd.prog 28 #[(.agg (((cs6) ++ ((cs7) ++ ([(.int .i64 (0 : Int)), (.int .i64 n6)] : List Value)))).toArray)] h21 fun r18 h22 =>
∃ (s7 : Option Addr) (s7l s7c : Nat),
∃ n7 : Int,
r18 = (.tuple #[(.slice s7 s7l s7c), (.int .i64 n7)]) ∧
Runs Tryd.prog 24 #[(.pointer p1), (.slice s7 s7l s7c)] h22 fun r19 h23 =>
∃ (s8 : Option Addr) (s8l s8c : Nat),
∃ (s9 : Option Addr) (s9l s9c : Nat),
r19 = (.tuple #[(.slice s8 s8l s8c), (.slice s9 s9l s9c)]) ∧
Runs Tryd.prog 24 #[(.pointer p1), (.slice s7 s7l s7c)] h23 fun r20 h24 =>
∃ (s10 : Option Addr) (s10l s10c : Nat),
∃ (s11 : Option Addr) (s11l s11c : Nat),
r20 = (.tuple #[(.slice s10 s10l s10c), (.slice s11 s11l s11c)]) ∧
∃ (I2 : Option Addr → Nat → Nat → Int → Int → Heap → Prop) (m2 : Option Addr → Nat → Nat → Int → Int → Heap → Nat), I2 none 0 0 n2 (1 : Int) h24 ∧ ∀ _ : Env,
∀ (want_1 : Option Addr) (want_1l want_1c : Nat) (end_1 : Int) (k_1 : Int) (h25 : Heap), I2 want_1 want_1l want_1c end_1 k_1 h25 →
bcase (decide (k_1 < (64 : Int))) (
(0 ≤ k_1 ∧ k_1 < ((65 : Nat) : Int)) ∧
∃ t3 : Bool, cell h25 b1 (0 + (k_1).toNat) = some (.bool t3) ∧
bcase t3 (
bcase (decide (k_1 < n2)) (
∀ (b4 : Nat) (h26 : Heap), b4 = h25.size → h26 = h25.push (.cells ([(.int .i64 k_1)] : List Value).toArray 3) →
∃ news1 : List Value, (row h26 b4 0 1 = some news1 ∧ ∀ u ∈ news1, u.oneCell' = true) ∧
appK h26 want_1 want_1l want_1c 1 1 3 8 news1 fun (a1 : Option Addr) (cap1 : Nat) (h27 : Heap) =>
bcase (decide (k_1 = end_1)) (
fits .i64 (end_1 + (1 : Int)) ∧
fits .i64 (k_1 + (1 : Int)) ∧
I2 a1 (want_1l + 1) cap1 (end_1 + (1 : Int)) (k_1 + (1 : Int)) h27 ∧ m2 a1 (want_1l + 1) cap1 (end_1 + (1 : Int)) (k_1 + (1 : Int)) h27 < m2 want_1 want_1l want_1c end_1 k_1 h25) (
fits .i64 (k_1 + (1 : Int)) ∧
I2 a1 (want_1l + 1) cap1 end_1 (k_1 + (1 : Int)) h27 ∧ m2 a1 (want_1l + 1) cap1 end_1 (k_1 + (1 : Int)) h27 < m2 want_1 want_1l want_1c end_1 k_1 h25)) (
bcase (decide ((0 : Int) < n2)) (
bcase (decide (k_1 = end_1)) (
∀ (b5 : Nat) (h28 : Heap), b5 = h25.size → h28 = h25.push (.cells ([(.int .i64 k_1)] : List Value).toArray 3) →
∃ news2 : List Value, (row h28 b5 0 1 = some news2 ∧ ∀ u ∈ news2, u.oneCell' = true) ∧
appK h28 want_1 want_1l want_1c 1 1 3 8 news2 fun (a2 : Option Addr) (cap2 : Nat) (h29 : Heap) =>
bcase (decide (k_1 = end_1)) (
fits .i64 (end_1 + (1 : Int)) ∧
fits .i64 (k_1 + (1 : Int)) ∧
I2 a2 (want_1l + 1) cap2 (end_1 + (1 : Int)) (k_1 + (1 : Int)) h29 ∧ m2 a2 (want_1l + 1) cap2 (end_1 + (1 : Int)) (k_1 + (1 : Int)) h29 < m2 want_1 want_1l want_1c end_1 k_1 h25) (
fits .i64 (k_1 + (1 : Int)) ∧
I2 a2 (want_1l + 1) cap2 end_1 (k_1 + (1 : Int)) h29 ∧ m2 a2 (want_1l + 1) cap2 end_1 (k_1 + (1 : Int)) h29 < m2 want_1 want_1l want_1c end_1 k_1 h25)) (
fits .i64 (k_1 + (1 : Int)) ∧
I2 want_1 want_1l want_1c end_1 (k_1 + (1 : Int)) h25 ∧ m2 want_1 want_1l want_1c end_1 (k_1 + (1 : Int)) h25 < m2 want_1 want_1l want_1c end_1 k_1 h25)) (
fits .i64 (k_1 + (1 : Int)) ∧
I2 want_1 want_1l want_1c end_1 (k_1 + (1 : Int)) h25 ∧ m2 want_1 want_1l want_1c end_1 (k_1 + (1 : Int)) h25 < m2 want_1 want_1l want_1c end_1 k_1 h25))) (
fits .i64 (k_1 + (1 : Int)) ∧
I2 want_1 want_1l want_1c end_1 (k_1 + (1 : Int)) h25 ∧ m2 want_1 want_1l want_1c end_1 (k_1 + (1 : Int)) h25 < m2 want_1 want_1l want_1c end_1 k_1 h25)) (
∃ J1 : Bool → Heap → Prop, (
bcase (!decide (((s8l : Nat) : Int) = ((want_1l : Nat) : Int))) (
J1 true h25) (
J1 (!decide (((s10l : Nat) : Int) = (0 : Int))) h25)) ∧ ∀ _ : Env,
∀ (x5 : Bool) (h30 : Heap), J1 x5 h30 →
bcase x5 (
Post (.bool false) h30) (
bcase (!decide (((s9l : Nat) : Int) = (28 : Int))) (
Post (.bool false) h30) (
∃ (I3 : Int → Heap → Prop) (m3 : Int → Heap → Nat), I3 (0 : Int) h30 ∧ ∀ _ : Env,
∀ (i_2 : Int) (h31 : Heap), I3 i_2 h31 →
bcase (decide (i_2 < ((s8l : Nat) : Int))) (
(0 ≤ i_2 ∧ i_2 < ((s8l : Nat) : Int)) ∧
onAddr s8 fun b6 o2 =>
∃ (s12 : Option Addr) (s12l s12c : Nat), cell h31 b6 ((o2 + ((i_2).toNat * 24)) + 23) = some (.slice s12 s12l s12c) ∧
(0 ≤ (0 : Int) ∧ (0 : Int) < ((s12l : Nat) : Int)) ∧
onAddr s12 fun b7 o3 =>
∃ n8 : Int, cell h31 b7 o3 = some (.int .u8 n8) ∧
fits .i64 n8 ∧
(0 ≤ i_2 ∧ i_2 < ((want_1l : Nat) : Int)) ∧
onAddr want_1 fun b8 o4 =>
∃ n9 : Int, cell h31 b8 (o4 + (i_2).toNat) = some (.int .i64 n9) ∧
bcase (!decide (n8 = n9)) (
Post (.bool false) h31) (
fits .i64 (i_2 + (1 : Int)) ∧
I3 (i_2 + (1 : Int)) h31 ∧ m3 (i_2 + (1 : Int)) h31 < m3 i_2 h31)) (
Runs Tryd.prog 18 #[(.pointer p1), (.int .i64 (0 : Int))] h31 fun r21 h32 =>
∃ n10 : Int,
∃ n11 : Int,
∃ t4 : Bool,
r21 = (.tuple #[(.int .i64 n10), (.int .i64 n11), (.bool t4)]) ∧
∃ J2 : Bool → Heap → Prop, (
bcase t1 (
J2 t4 h32) (
J2 false h32)) ∧ ∀ _ : Env,
∀ (x7 : Bool) (h33 : Heap), J2 x7 h33 →
bcase x7 (
Runs Tryd.prog 27 #[(.int .i64 n1), (.int .i64 end_1)] h33 fun r22 h34 =>
∃ n12 : Int,
r22 = (.int .i64 n12) ∧
Post (.bool (decide (n10 = n12))) h34) (
Post (.bool false) h33))))))))))) :
    Runs Tryd.prog 6 #[(.int .i64 start), (.slice l lL lC), (.int .i64 to_)] h0 Post :=
  runs_of (args := [(.int .i64 start), (.slice l lL lC), (.int .i64 to_)]) (fun n => ⟨true, false⟩) (fun n => match n with | 0 => [(13, .int .i64)] | 2 => [(21, .slice), (22, .int .i64), (23, .int .i64)] | 4 => [(24, .int .i64)] | _ => []) (fun _ => none) (fun n => match n with | 32 => [(10, [(152, .bool)])] | 40 => [(4, [(186, .bool)])] | _ => []) Tryd.func6 rfl (by rw [Tryd.ntmps6]; simp) (Eq.mp (by kernel_rfl) H)
end Go.Proofs.YthlacliefgliiaaDoor
