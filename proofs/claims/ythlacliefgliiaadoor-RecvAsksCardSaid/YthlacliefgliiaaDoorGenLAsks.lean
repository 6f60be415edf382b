/- The conditions for calls of functions of the program, in plain form: written by a program (vcgen) off the elaborated code; each is the reckoner's own, by the kernel. -/
import Derived.Test.YthlacliefgliiaaDoorRows
import Derived.Test.YthlacliefgliiaaDoorVc
set_option linter.unusedVariables false
set_option maxRecDepth 100000
namespace Go.Proofs.YthlacliefgliiaaDoor
open Go.Vc
theorem vc_muezzinlaw24_RecvAsks (size : Int) (own : Int) (seq : Int) (how : Int) (h0 : Heap) (Post : Value → Heap → Prop) (H :
Runs Tryd.prog 9 #[] h0 fun r1 h1 =>
∃ t1 : Bool,
r1 = (.bool t1) ∧
bcase (!t1) (
Post (.bool false) h1) (
Runs Tryd.prog 13 #[(.int .i64 size), (.int .i64 (100 : Int))] h1 fun r2 h2 =>
∃ n1 : Int,
r2 = (.int .i64 n1) ∧
Runs Tryd.prog 13 #[(.int .i64 own), (.int .i64 (64 : Int))] h2 fun r3 h3 =>
∃ n2 : Int,
r3 = (.int .i64 n2) ∧
fits .i64 (n2 + (1 : Int)) ∧
Runs Tryd.prog 13 #[(.int .i64 seq), (.int .i64 (4096 : Int))] h3 fun r4 h4 =>
∃ n3 : Int,
r4 = (.int .i64 n3) ∧
Runs Tryd.prog 11 #[] h4 fun r5 h5 =>
∃ cs1 : List Value,
r5 = (.agg (cs1).toArray) ∧
Runs Tryd.prog 12 #[] h5 fun r6 h6 =>
∃ cs2 : List Value,
r6 = (.agg (cs2).toArray) ∧
Runs Tryd.prog 10 #[(.agg (cs1).toArray), (.agg (cs2).toArray), (.int .i64 (n2 + (1 : Int)))] h6 fun r7 h7 =>
∃ p1 : Option Addr,
∃ v1 : Value,
r7 = (.tuple #[(.pointer p1), v1]) ∧
bcase (isNilAddr p1) (
Post (.bool false) h7) (
∃ t2 : Bool, ifeqH Tryd.prog h7 true (v1) (.nilIface) = some t2 ∧
bcase (!t2) (
Post (.bool false) h7) (
Runs Tryd.prog 11 #[] h7 fun r8 h8 =>
∃ cs3 : List Value,
r8 = (.agg (cs3).toArray) ∧
Runs Tryd.prog 12 #[] h8 fun r9 h9 =>
∃ cs4 : List Value,
r9 = (.agg (cs4).toArray) ∧
Runs Tryd.prog 12 #[] h9 fun r10 h10 =>
∃ cs5 : List Value,
r10 = (.agg (cs5).toArray) ∧
(cs3).length = 6 ∧
(cs4).length = 6 ∧
(cs5).length = 6 ∧
Runs Tryd.prog 25 #[(.agg (((cs3) ++ ((cs4) ++ ((cs5) ++ ([(.bool false), (.int .i64 (77 : Int)), (.int .i64 (3 : Int)), (.int .i64 n1), (.int .i64 (0 : Int)), (.int .i64 n3), (.int .i64 (0 : Int))] : List Value))))).toArray)] h10 fun r11 h11 =>
∃ (s1 : Option Addr) (s1l s1c : Nat),
∃ n4 : Int,
r11 = (.tuple #[(.slice s1 s1l s1c), (.int .i64 n4)]) ∧
Runs Tryd.prog 24 #[(.pointer p1), (.slice s1 s1l s1c)] h11 fun r12 h12 =>
∃ (s2 : Option Addr) (s2l s2c : Nat),
∃ (s3 : Option Addr) (s3l s3c : Nat),
r12 = (.tuple #[(.slice s2 s2l s2c), (.slice s3 s3l s3c)]) ∧
Runs Tryd.prog 30 #[(.slice s3 s3l s3c)] h12 fun r13 h13 =>
∃ cs6 : List Value,
∃ n5 : Int,
r13 = (.tuple #[(.agg (cs6).toArray), (.int .i64 n5)]) ∧
∀ (b1 : Nat) (h14 : Heap), b1 = h13.size → h14 = h13.push (.cells ([(.int .u8 (0 : Int)), (.int .u8 (0 : Int)), (.int .u8 (0 : Int)), (.int .u8 (0 : Int)), (.int .u8 (0 : Int)), (.int .u8 (0 : Int)), (.int .u8 (0 : Int)), (.int .u8 (0 : Int)), (.int .u8 (0 : Int)), (.int .u8 (0 : Int)), (.int .u8 (0 : Int)), (.int .u8 (0 : Int)), (.int .u8 (0 : Int)), (.int .u8 (0 : Int)), (.int .u8 (0 : Int)), (.int .u8 (0 : Int)), (.int .u8 (0 : Int)), (.int .u8 (0 : Int)), (.bool false), (.int .i64 (0 : Int)), (.int .i64 (0 : Int)), (.int .i64 (0 : Int)), (.int .i64 (0 : Int)), (.int .i64 (0 : Int)), (.int .i64 (0 : Int))] : List Value).toArray 65) →
(((cs6)).length = 25 ∧ wrs h14 b1 0 25 ∧ ∀ u ∈ ((cs6) : List Value), u.oneCell' = true) ∧ ∀ h15 : Heap, h15 = setr h14 b1 0 (cs6) →
∃ J1 : Int → Heap → Prop, (
bcase (decide ((0 : Int) < n1)) (
J1 (min (n2 + (1 : Int)) n1) h15) (
J1 (n2 + (1 : Int)) h15)) ∧ ∀ _ : Env,
∀ (want_1 : Int) (h16 : Heap), J1 want_1 h16 →
Runs Tryd.prog 18 #[(.pointer p1), (.int .i64 (3 : Int))] h16 fun r14 h17 =>
∃ n6 : Int,
∃ n7 : Int,
∃ t3 : Bool,
r14 = (.tuple #[(.int .i64 n6), (.int .i64 n7), (.bool t3)]) ∧
∃ J2 : Bool → Heap → Prop, (
bcase (!decide (n5 = (0 : Int))) (
J2 true h17) (
∃ t4 : Bool, cell h17 b1 18 = some (.bool t4) ∧
J2 (!t4) h17)) ∧ ∀ _ : Env,
∀ (x2 : Bool) (h18 : Heap), J2 x2 h18 →
∃ J3 : Bool → Heap → Prop, (
bcase x2 (
J3 true h18) (
∃ n8 : Int, cell h18 b1 19 = some (.int .i64 n8) ∧
J3 (!decide (n8 = (77 : Int))) h18)) ∧ ∀ _ : Env,
∀ (x3 : Bool) (h19 : Heap), J3 x3 h19 →
∃ J4 : Bool → Heap → Prop, (
bcase x3 (
J4 true h19) (
∃ n9 : Int, cell h19 b1 20 = some (.int .i64 n9) ∧
J4 (!decide (n9 = (3 : Int))) h19)) ∧ ∀ _ : Env,
∀ (x4 : Bool) (h20 : Heap), J4 x4 h20 →
∃ J5 : Bool → Heap → Prop, (
bcase x4 (
J5 true h20) (
∃ n10 : Int, cell h20 b1 21 = some (.int .i64 n10) ∧
J5 (!decide (n10 = want_1)) h20)) ∧ ∀ _ : Env,
∀ (x5 : Bool) (h21 : Heap), J5 x5 h21 →
∃ J6 : Bool → Heap → Prop, (
bcase x5 (
J6 true h21) (
∃ n11 : Int, cell h21 b1 24 = some (.int .i64 n11) ∧
J6 (!decide (n11 = (0 : Int))) h21)) ∧ ∀ _ : Env,
∀ (x6 : Bool) (h22 : Heap), J6 x6 h22 →
∃ J7 : Bool → Heap → Prop, (
bcase x6 (
J7 true h22) (
J7 (!t3) h22)) ∧ ∀ _ : Env,
∀ (x7 : Bool) (h23 : Heap), J7 x7 h23 →
∃ J8 : Bool → Heap → Prop, (
bcase x7 (
J8 true h23) (
J8 (!decide (n6 = n3)) h23)) ∧ ∀ _ : Env,
∀ (x8 : Bool) (h24 : Heap), J8 x8 h24 →
bcase x8 (
Post (.bool false) h24) (
bcase (!decide (n7 = want_1)) (
Post (.bool false) h24) (
bcase (decide (want_1 < (2 : Int))) (
Post (.bool t1) h24) (
∀ (b2 : Nat) (h25 : Heap), b2 = h24.size → h25 = h24.push (.cells ([(.int .u8 (1 : Int))] : List Value).toArray 5) →
fits .i64 (n3 + (1 : Int)) ∧
Runs Tryd.prog 15 #[(.agg #[(.int .i64 (0 : Int)), (.int .i64 (3 : Int)), (.int .i64 (0 : Int)), (.int .i64 (0 : Int)), (.bool false), (.bool false), (.int .u32 (0 : Int)), (.slice (some ⟨b2, 0, none⟩) 1 1)]), (.int .i64 (n3 + (1 : Int)))] h25 fun r15 h26 =>
∃ (s4 : Option Addr) (s4l s4c : Nat),
r15 = (.slice s4 s4l s4c) ∧
Runs Tryd.prog 14 #[(.pointer p1), (.bool false), (.slice s4 s4l s4c)] h26 fun r16 h27 =>
∃ (s5 : Option Addr) (s5l s5c : Nat),
∃ (s6 : Option Addr) (s6l s6c : Nat),
r16 = (.tuple #[(.slice s5 s5l s5c), (.slice s6 s6l s6c)]) ∧
∃ J9 : Bool → Heap → Prop, (
Runs Tryd.prog 19 #[(.pointer p1), (.int .i64 (3 : Int))] h27 fun r17 h28 =>
∃ n12 : Int,
r17 = (.int .i64 n12) ∧
bcase (!decide (n12 = (1 : Int))) (
J9 true h28) (
Runs Tryd.prog 27 #[(.int .i64 n3), (.int .i64 (1 : Int))] h28 fun r18 h29 =>
∃ n13 : Int,
r18 = (.int .i64 n13) ∧
Runs Tryd.prog 21 #[(.pointer p1), (.int .i64 (3 : Int)), (.int .i64 n13)] h29 fun r19 h30 =>
∃ t5 : Bool,
r19 = (.bool t5) ∧
J9 (!t5) h30)) ∧ ∀ _ : Env,
∀ (x9 : Bool) (h31 : Heap), J9 x9 h31 →
bcase x9 (
Post (.bool false) h31) (
Runs Tryd.prog 21 #[(.pointer p1), (.int .i64 (3 : Int)), (.int .i64 n3)] h31 fun r20 h32 =>
∃ t6 : Bool,
r20 = (.bool t6) ∧
bcase t6 (
Post (.bool false) h32) (
∃ J10 : Option Addr → Nat → Nat → Heap → Prop, (
Runs Tryd.prog 13 #[(.int .i64 how), (.int .i64 (3 : Int))] h32 fun r21 h33 =>
∃ n14 : Int,
r21 = (.int .i64 n14) ∧
bcase (decide (n14 = (0 : Int))) (
Runs Tryd.prog 24 #[(.pointer p1), (.slice s1 s1l s1c)] h33 fun r22 h34 =>
∃ (s7 : Option Addr) (s7l s7c : Nat),
∃ (s8 : Option Addr) (s8l s8c : Nat),
r22 = (.tuple #[(.slice s7 s7l s7c), (.slice s8 s8l s8c)]) ∧
J10 s7 s7l s7c h34) (
bcase (decide (n14 = (1 : Int))) (
Runs Tryd.prog 11 #[] h33 fun r23 h35 =>
∃ cs7 : List Value,
r23 = (.agg (cs7).toArray) ∧
Runs Tryd.prog 12 #[] h35 fun r24 h36 =>
∃ cs8 : List Value,
r24 = (.agg (cs8).toArray) ∧
Runs Tryd.prog 12 #[] h36 fun r25 h37 =>
∃ cs9 : List Value,
r25 = (.agg (cs9).toArray) ∧
(cs7).length = 6 ∧
(cs8).length = 6 ∧
(cs9).length = 6 ∧
Runs Tryd.prog 31 #[(.agg (((cs7) ++ ((cs8) ++ ((cs9) ++ ([(.bool true), (.int .i64 (3 : Int)), (.int .i64 (0 : Int))] : List Value))))).toArray)] h37 fun r26 h38 =>
∃ (s9 : Option Addr) (s9l s9c : Nat),
∃ n15 : Int,
r26 = (.tuple #[(.slice s9 s9l s9c), (.int .i64 n15)]) ∧
Runs Tryd.prog 24 #[(.pointer p1), (.slice s9 s9l s9c)] h38 fun r27 h39 =>
∃ (s10 : Option Addr) (s10l s10c : Nat),
∃ (s11 : Option Addr) (s11l s11c : Nat),
r27 = (.tuple #[(.slice s10 s10l s10c), (.slice s11 s11l s11c)]) ∧
J10 s10 s10l s10c h39) (
Runs Tryd.prog 20 #[(.pointer p1)] h33 fun r28 h40 =>
∃ (s12 : Option Addr) (s12l s12c : Nat),
r28 = (.slice s12 s12l s12c) ∧
J10 s12 s12l s12c h40))) ∧ ∀ _ : Env,
∀ (u_1 : Option Addr) (u_1l u_1c : Nat) (h41 : Heap), J10 u_1 u_1l u_1c h41 →
∃ J11 : Bool → Heap → Prop, (
bcase t1 (
J11 (decide (((u_1l : Nat) : Int) = (1 : Int))) h41) (
J11 false h41)) ∧ ∀ _ : Env,
∀ (x11 : Bool) (h42 : Heap), J11 x11 h42 →
∃ J12 : Bool → Heap → Prop, (
bcase x11 (
(0 ≤ (0 : Int) ∧ (0 : Int) < ((u_1l : Nat) : Int)) ∧
onAddr u_1 fun b3 o1 =>
∃ (s13 : Option Addr) (s13l s13c : Nat), cell h42 b3 (o1 + 23) = some (.slice s13 s13l s13c) ∧
(0 ≤ (0 : Int) ∧ (0 : Int) < ((s13l : Nat) : Int)) ∧
onAddr s13 fun b4 o2 =>
∃ n16 : Int, cell h42 b4 o2 = some (.int .u8 n16) ∧
J12 (decide (n16 = (1 : Int))) h42) (
J12 false h42)) ∧ ∀ _ : Env,
∀ (x12 : Bool) (h43 : Heap), J12 x12 h43 →
∃ J13 : Bool → Heap → Prop, (
bcase x12 (
Runs Tryd.prog 19 #[(.pointer p1), (.int .i64 (3 : Int))] h43 fun r29 h44 =>
∃ n17 : Int,
r29 = (.int .i64 n17) ∧
J13 (decide (n17 = (0 : Int))) h44) (
J13 false h43)) ∧ ∀ _ : Env,
∀ (x13 : Bool) (h45 : Heap), J13 x13 h45 →
bcase x13 (
Runs Tryd.prog 27 #[(.int .i64 n3), (.int .i64 (1 : Int))] h45 fun r30 h46 =>
∃ n18 : Int,
r30 = (.int .i64 n18) ∧
Runs Tryd.prog 21 #[(.pointer p1), (.int .i64 (3 : Int)), (.int .i64 n18)] h46 fun r31 h47 =>
∃ t7 : Bool,
r31 = (.bool t7) ∧
Post (.bool (!t7)) h47) (
Post (.bool false) h45)))))))))) :
    Runs Tryd.prog 8 #[(.int .i64 size), (.int .i64 own), (.int .i64 seq), (.int .i64 how)] h0 Post :=
  runs_of (args := [(.int .i64 size), (.int .i64 own), (.int .i64 seq), (.int .i64 how)]) (fun n => ⟨true, false⟩) (fun _ => []) (fun n => match n with | 16 => some [(18, .int .i64)] | 32 => some [(22, .slice)] | _ => none) (fun n => match n with | 17 => [(7, [(87, .bool)]), (5, [(92, .bool)]), (5, [(97, .bool)]), (6, [(103, .bool)]), (5, [(108, .bool)]), (4, [(112, .bool)]), (5, [(117, .bool)])] | 22 => [(10, [(142, .bool)])] | 32 => [(6, [(181, .bool)]), (9, [(190, .bool)]), (5, [(195, .bool)])] | _ => []) Tryd.func8 rfl (by rw [Tryd.ntmps8]; simp) (Eq.mp (by kernel_rfl) H)
end Go.Proofs.YthlacliefgliiaaDoor
