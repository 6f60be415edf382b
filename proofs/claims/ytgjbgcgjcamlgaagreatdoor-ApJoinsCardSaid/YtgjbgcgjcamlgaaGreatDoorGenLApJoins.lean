/- The conditions for calls of functions of the program, in plain form: written by a program (vcgen) off the elaborated code; each is the reckoner's own, by the kernel. -/
import Derived.Test.YtgjbgcgjcamlgaaGreatDoorRows
import Derived.Test.YtgjbgcgjcamlgaaGreatDoorVc
set_option linter.unusedVariables false
set_option maxRecDepth 100000
namespace Go.Proofs.YtgjbgcgjcamlgaaGreatDoor
open Go.Vc
theorem vc_muezzinlaw26_ApJoins (k : Int) (aid : Int) (h0 : Heap) (Post : Value → Heap → Prop) (H :
Runs Tryz.prog 5 #[] h0 fun r1 h1 =>
∃ t1 : Bool,
r1 = (.bool t1) ∧
bcase (!t1) (
Post (.bool false) h1) (
Runs Tryz.prog 6 #[(.int .i64 (0 : Int))] h1 fun r2 h2 =>
∃ cs1 : List Value,
r2 = (.agg (cs1).toArray) ∧
Runs Tryz.prog 8 #[(.agg (cs1).toArray)] h2 fun r3 h3 =>
∃ p1 : Option Addr,
∃ v1 : Value,
r3 = (.tuple #[(.pointer p1), v1]) ∧
bcase (isNilAddr p1) (
Post (.bool false) h3) (
∃ t2 : Bool, ifeqH Tryz.prog h3 true (v1) (.nilIface) = some t2 ∧
bcase (!t2) (
Post (.bool false) h3) (
∀ (b1 : Nat) (h4 : Heap), b1 = h3.size → h4 = h3.push (.cells ([(.int .i64 (0 : Int)), (.int .i64 (0 : Int)), (.int .i64 (0 : Int)), (.int .i64 (0 : Int)), (.int .i64 (0 : Int))] : List Value).toArray 42) →
((([(.int .i64 (2 : Int)), (.int .i64 (0 : Int)), (.int .i64 (1 : Int)), (.int .i64 (20 : Int)), (.int .i64 (0 : Int))] : List Value)).length = 5 ∧ wrs h4 b1 0 5 ∧ ∀ u ∈ (([(.int .i64 (2 : Int)), (.int .i64 (0 : Int)), (.int .i64 (1 : Int)), (.int .i64 (20 : Int)), (.int .i64 (0 : Int))] : List Value) : List Value), u.oneCell' = true) ∧ ∀ h5 : Heap, h5 = setr h4 b1 0 ([(.int .i64 (2 : Int)), (.int .i64 (0 : Int)), (.int .i64 (1 : Int)), (.int .i64 (20 : Int)), (.int .i64 (0 : Int))] : List Value) →
∃ cs2 : List Value, row h5 b1 0 5 = some cs2 ∧
Runs Tryz.prog 11 #[(.int .i64 (1 : Int))] h5 fun r4 h6 =>
∃ cs3 : List Value,
r4 = (.agg (cs3).toArray) ∧
row h6 b1 0 5 = some (cs2) ∧
Runs Tryz.prog 10 #[(.pointer p1), (.agg (cs3).toArray), (.agg (cs2).toArray), (.int .i64 (5 : Int)), (.agg #[(.bool false), (.bool false), (.bool false), (.bool false)]), (.int .i64 (0 : Int))] h6 fun r5 h7 =>
∃ n1 : Int,
∃ v2 : Value,
r5 = (.tuple #[(.int .i64 n1), v2]) ∧
∃ cs4 : List Value, row h7 b1 0 5 = some cs4 ∧
Runs Tryz.prog 11 #[(.int .i64 (2 : Int))] h7 fun r6 h8 =>
∃ cs5 : List Value,
r6 = (.agg (cs5).toArray) ∧
row h8 b1 0 5 = some (cs4) ∧
Runs Tryz.prog 10 #[(.pointer p1), (.agg (cs5).toArray), (.agg (cs4).toArray), (.int .i64 (5 : Int)), (.agg #[(.bool false), (.bool false), (.bool false), (.bool false)]), (.int .i64 (8 : Int))] h8 fun r7 h9 =>
∃ n2 : Int,
∃ v3 : Value,
r7 = (.tuple #[(.int .i64 n2), v3]) ∧
∃ J1 : Bool → Heap → Prop, (
∃ t3 : Bool, ifeqH Tryz.prog h9 true (v2) (.nilIface) = some t3 ∧
bcase (!t3) (
J1 true h9) (
∃ t4 : Bool, ifeqH Tryz.prog h9 true (v3) (.nilIface) = some t4 ∧
J1 (!t4) h9)) ∧ ∀ _ : Env,
∀ (x1 : Bool) (h10 : Heap), J1 x1 h10 →
∃ J2 : Bool → Heap → Prop, (
bcase x1 (
J2 true h10) (
J2 (!decide (n1 = (1 : Int))) h10)) ∧ ∀ _ : Env,
∀ (x2 : Bool) (h11 : Heap), J2 x2 h11 →
bcase x2 (
Post (.bool false) h11) (
bcase (!decide (n2 = (2 : Int))) (
Post (.bool false) h11) (
∃ cs6 : List Value, row h11 b1 0 5 = some cs6 ∧
Runs Tryz.prog 11 #[(.int .i64 (1 : Int))] h11 fun r8 h12 =>
∃ cs7 : List Value,
r8 = (.agg (cs7).toArray) ∧
row h12 b1 0 5 = some (cs6) ∧
Runs Tryz.prog 10 #[(.pointer p1), (.agg (cs7).toArray), (.agg (cs6).toArray), (.int .i64 (5 : Int)), (.agg #[(.bool false), (.bool false), (.bool false), (.bool false)]), (.int .i64 (0 : Int))] h12 fun r9 h13 =>
∃ n3 : Int,
∃ v4 : Value,
r9 = (.tuple #[(.int .i64 n3), v4]) ∧
∃ cs8 : List Value, row h13 b1 0 5 = some cs8 ∧
Runs Tryz.prog 12 #[] h13 fun r10 h14 =>
∃ cs9 : List Value,
r10 = (.agg (cs9).toArray) ∧
row h14 b1 0 5 = some (cs8) ∧
Runs Tryz.prog 10 #[(.pointer p1), (.agg (cs9).toArray), (.agg (cs8).toArray), (.int .i64 (5 : Int)), (.agg #[(.bool false), (.bool false), (.bool false), (.bool false)]), (.int .i64 (0 : Int))] h14 fun r11 h15 =>
∃ n4 : Int,
∃ v5 : Value,
r11 = (.tuple #[(.int .i64 n4), v5]) ∧
∃ cs10 : List Value, row h15 b1 0 5 = some cs10 ∧
∃ cs11 : List Value, row h15 b1 0 5 = some cs11 ∧
∃ cs12 : List Value, row h15 b1 0 5 = some cs12 ∧
(cs10).length = 5 ∧
([(.int .i64 (0 : Int)), (.int .i64 (0 : Int)), (.int .i64 (0 : Int)), (.int .i64 (0 : Int)), (.int .i64 (0 : Int))] : List Value).length = 5 ∧
(cs11).length = 5 ∧
(cs12).length = 5 ∧
∀ (b2 : Nat) (h16 : Heap), b2 = h15.size → h16 = h15.push (.cells (((cs10) ++ (([(.int .i64 (0 : Int)), (.int .i64 (0 : Int)), (.int .i64 (0 : Int)), (.int .i64 (0 : Int)), (.int .i64 (0 : Int))] : List Value) ++ ((cs11) ++ ((cs12) ++ []))))).toArray 42) →
∀ (b3 : Nat) (h17 : Heap), b3 = h16.size → h17 = h16.push (.cells ([(.int .i64 (0 : Int)), (.int .i64 (5 : Int)), (.int .i64 (101 : Int)), (.int .i64 (5 : Int))] : List Value).toArray 3) →
∀ (b4 : Nat) (h18 : Heap), b4 = h17.size → h18 = h17.push (.cells ([(.int .i64 (0 : Int)), (.int .i64 (0 : Int)), (.int .i64 (0 : Int)), (.int .i64 (9 : Int))] : List Value).toArray 3) →
Runs Tryz.prog 7 #[(.int .i64 k), (.int .i64 (4 : Int))] h18 fun r12 h19 =>
∃ n5 : Int,
r12 = (.int .i64 n5) ∧
(0 ≤ n5 ∧ n5 < ((4 : Nat) : Int)) ∧
∃ cs13 : List Value, row h19 b2 (0 + ((n5).toNat * 5)) 5 = some cs13 ∧
(0 ≤ n5 ∧ n5 < ((4 : Nat) : Int)) ∧
∃ n6 : Int, cell h19 b3 (0 + (n5).toNat) = some (.int .i64 n6) ∧
(0 ≤ n5 ∧ n5 < ((4 : Nat) : Int)) ∧
∃ n7 : Int, cell h19 b4 (0 + (n5).toNat) = some (.int .i64 n7) ∧
Runs Tryz.prog 11 #[(.int .i64 (3 : Int))] h19 fun r13 h20 =>
∃ cs14 : List Value,
r13 = (.agg (cs14).toArray) ∧
cell h20 b4 (0 + (n5).toNat) = some (.int .i64 n7) ∧
cell h20 b3 (0 + (n5).toNat) = some (.int .i64 n6) ∧
row h20 b2 (0 + ((n5).toNat * 5)) 5 = some (cs13) ∧
Runs Tryz.prog 10 #[(.pointer p1), (.agg (cs14).toArray), (.agg (cs13).toArray), (.int .i64 n6), (.agg #[(.bool false), (.bool false), (.bool false), (.bool false)]), (.int .i64 n7)] h20 fun r14 h21 =>
∃ n8 : Int,
∃ v6 : Value,
r14 = (.tuple #[(.int .i64 n8), v6]) ∧
Runs Tryz.prog 7 #[(.int .i64 aid), (.int .i64 (14 : Int))] h21 fun r15 h22 =>
∃ n9 : Int,
r15 = (.int .i64 n9) ∧
fits .i64 (n9 + (3 : Int)) ∧
Runs Tryz.prog 13 #[(.pointer p1), (.int .i64 (0 : Int)), (.int .i64 (n9 + (3 : Int))), (.int .i64 (0 : Int)), (.int .u32 (0 : Int)), (.slice none 0 0)] h22 fun r16 h23 =>
∃ n10 : Int,
∃ v7 : Value,
r16 = (.tuple #[(.int .i64 n10), v7]) ∧
Runs Tryz.prog 13 #[(.pointer p1), (.int .i64 (0 : Int)), (.int .i64 (1 : Int)), (.int .i64 (8 : Int)), (.int .u32 (0 : Int)), (.slice none 0 0)] h23 fun r17 h24 =>
∃ n11 : Int,
∃ v8 : Value,
r17 = (.tuple #[(.int .i64 n11), v8]) ∧
∃ cs15 : List Value, row h24 b1 0 5 = some cs15 ∧
Runs Tryz.prog 14 #[(.pointer p1), (.int .i64 (n9 + (3 : Int)))] h24 fun r18 h25 =>
∃ v9 : Value,
r18 = v9 ∧
row h25 b1 0 5 = some (cs15) ∧
Runs Tryz.prog 15 #[(.pointer p1), (.int .i64 (n9 + (3 : Int))), (.agg (cs15).toArray)] h25 fun r19 h26 =>
∃ v10 : Value,
r19 = v10 ∧
Runs Tryz.prog 16 #[(.pointer p1), (.int .i64 (n9 + (3 : Int))), (.int .i64 (5 : Int))] h26 fun r20 h27 =>
∃ v11 : Value,
r20 = v11 ∧
Runs Tryz.prog 17 #[(.pointer p1), (.int .i64 (n9 + (3 : Int))), (.bool true)] h27 fun r21 h28 =>
∃ v12 : Value,
r21 = v12 ∧
Runs Tryz.prog 18 #[(.pointer p1), (.int .i64 (n9 + (3 : Int))), (.int .i64 (0 : Int))] h28 fun r22 h29 =>
∃ v13 : Value,
r22 = v13 ∧
partv 1 v9 fun cs16 =>
partv 1 v10 fun cs17 =>
partv 1 v11 fun cs18 =>
partv 1 v12 fun cs19 =>
partv 1 v13 fun cs20 =>
partv 1 v7 fun cs21 =>
∀ (b5 : Nat) (h30 : Heap), b5 = h29.size → h30 = h29.push (.cells ((cs16 ++ (cs17 ++ (cs18 ++ (cs19 ++ (cs20 ++ (cs21 ++ []))))))).toArray 33) →
∃ (I1 : Int → Heap → Prop) (m1 : Int → Heap → Nat), I1 (0 : Int) h30 ∧ ∀ _ : Env,
∀ (x_1 : Int) (h31 : Heap), I1 x_1 h31 →
bcase (decide (x_1 < ((6 : Nat) : Int))) (
(0 ≤ x_1 ∧ x_1 < ((6 : Nat) : Int)) ∧
∃ v14 : Value, cell h31 b5 (0 + (x_1).toNat) = some v14 ∧
Runs Tryz.prog 9 #[v14, (.int .i64 (107 : Int))] h31 fun r23 h32 =>
∃ t5 : Bool,
r23 = (.bool t5) ∧
bcase (!t5) (
Post (.bool false) h32) (
fits .i64 (x_1 + (1 : Int)) ∧
I1 (x_1 + (1 : Int)) h32 ∧ m1 (x_1 + (1 : Int)) h32 < m1 x_1 h31)) (
∃ J3 : Bool → Heap → Prop, (
bcase t1 (
Runs Tryz.prog 9 #[v4, (.int .i64 (108 : Int))] h31 fun r24 h33 =>
∃ t6 : Bool,
r24 = (.bool t6) ∧
J3 t6 h33) (
J3 false h31)) ∧ ∀ _ : Env,
∀ (x4 : Bool) (h34 : Heap), J3 x4 h34 →
∃ J4 : Bool → Heap → Prop, (
bcase x4 (
Runs Tryz.prog 9 #[v5, (.int .i64 (108 : Int))] h34 fun r25 h35 =>
∃ t7 : Bool,
r25 = (.bool t7) ∧
J4 t7 h35) (
J4 false h34)) ∧ ∀ _ : Env,
∀ (x5 : Bool) (h36 : Heap), J4 x5 h36 →
∃ J5 : Bool → Heap → Prop, (
bcase x5 (
Runs Tryz.prog 9 #[v6, (.int .i64 (103 : Int))] h36 fun r26 h37 =>
∃ t8 : Bool,
r26 = (.bool t8) ∧
J5 t8 h37) (
J5 false h36)) ∧ ∀ _ : Env,
∀ (x6 : Bool) (h38 : Heap), J5 x6 h38 →
∃ J6 : Bool → Heap → Prop, (
bcase x6 (
Runs Tryz.prog 9 #[v8, (.int .i64 (103 : Int))] h38 fun r27 h39 =>
∃ t9 : Bool,
r27 = (.bool t9) ∧
J6 t9 h39) (
J6 false h38)) ∧ ∀ _ : Env,
∀ (x7 : Bool) (h40 : Heap), J6 x7 h40 →
∃ J7 : Bool → Heap → Prop, (
bcase x7 (
Runs Tryz.prog 14 #[(.pointer p1), (.int .i64 (1 : Int))] h40 fun r28 h41 =>
∃ v15 : Value,
r28 = v15 ∧
∃ t10 : Bool, ifeqH Tryz.prog h41 true (v15) (.nilIface) = some t10 ∧
J7 t10 h41) (
J7 false h40)) ∧ ∀ _ : Env,
∀ (x8 : Bool) (h42 : Heap), J7 x8 h42 →
bcase x8 (
Runs Tryz.prog 19 #[(.pointer p1)] h42 fun r29 h43 =>
∃ p2 : Option Addr,
r29 = (.pointer p2) ∧
Runs Tryz.prog 20 #[(.pointer p2)] h43 fun r30 h44 =>
∃ (s1 : Option Addr) (s1l s1c : Nat),
r30 = (.slice s1 s1l s1c) ∧
Post (.bool (decide (((s1l : Nat) : Int) = (1 : Int)))) h44) (
Post (.bool false) h42)))))))) :
    Runs Tryz.prog 4 #[(.int .i64 k), (.int .i64 aid)] h0 Post :=
  runs_of (args := [(.int .i64 k), (.int .i64 aid)]) (fun n => ⟨true, false⟩) (fun n => match n with | 0 => [(27, .int .i64)] | _ => []) (fun _ => none) (fun n => match n with | 10 => [(6, [(64, .bool)]), (4, [(68, .bool)])] | 28 => [(5, [(165, .bool)]), (4, [(169, .bool)]), (4, [(173, .bool)]), (4, [(177, .bool)]), (5, [(182, .bool)])] | _ => []) Tryz.func4 rfl (by rw [Tryz.ntmps4]; simp) (Eq.mp (by kernel_rfl) H)
end Go.Proofs.YtgjbgcgjcamlgaaGreatDoor
