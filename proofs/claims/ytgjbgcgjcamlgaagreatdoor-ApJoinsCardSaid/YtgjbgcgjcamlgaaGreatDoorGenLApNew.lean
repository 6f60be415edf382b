/- The conditions for calls of functions of the program, in plain form: written by a program (vcgen) off the elaborated code; each is the reckoner's own, by the kernel. -/
import Derived.Test.YtgjbgcgjcamlgaaGreatDoorRows
import Derived.Test.YtgjbgcgjcamlgaaGreatDoorVc
set_option linter.unusedVariables false
set_option maxRecDepth 100000
namespace Go.Proofs.YtgjbgcgjcamlgaaGreatDoor
open Go.Vc
theorem vc_muezzinlaw26_ApNew (n : Int) (which : Int) (far : Int) (h0 : Heap) (Post : Value → Heap → Prop) (H :
Runs Tryz.prog 5 #[] h0 fun r1 h1 =>
∃ t1 : Bool,
r1 = (.bool t1) ∧
bcase (!t1) (
Post (.bool false) h1) (
Runs Tryz.prog 6 #[(.int .i64 n)] h1 fun r2 h2 =>
∃ cs1 : List Value,
r2 = (.agg (cs1).toArray) ∧
∀ (b1 : Nat) (h3 : Heap), b1 = h2.size → h3 = h2.push (.cells ([(.int .u8 (0 : Int)), (.int .u8 (0 : Int)), (.int .u8 (0 : Int)), (.int .u8 (0 : Int)), (.int .u8 (0 : Int)), (.int .u8 (0 : Int)), (.int .u32 (0 : Int)), (.int .i64 (0 : Int)), (.int .i64 (0 : Int)), (.int .i64 (0 : Int)), (.int .i64 (0 : Int)), (.int .i64 (0 : Int)), (.int .i64 (0 : Int)), (.int .i64 (0 : Int)), (.int .i64 (0 : Int)), (.int .i64 (0 : Int)), (.int .i64 (0 : Int)), (.int .i64 (0 : Int)), (.int .i64 (0 : Int)), (.int .i64 (0 : Int)), (.int .i64 (0 : Int))] : List Value).toArray 28) →
(((cs1)).length = 21 ∧ wrs h3 b1 0 21 ∧ ∀ u ∈ ((cs1) : List Value), u.oneCell' = true) ∧ ∀ h4 : Heap, h4 = setr h3 b1 0 (cs1) →
Runs Tryz.prog 7 #[(.int .i64 far), (.int .i64 (3 : Int))] h4 fun r3 h5 =>
∃ n1 : Int,
r3 = (.int .i64 n1) ∧
∃ cs2 : List Value, row h5 b1 0 21 = some cs2 ∧
Runs Tryz.prog 8 #[(.agg (cs2).toArray)] h5 fun r4 h6 =>
∃ p1 : Option Addr,
∃ v1 : Value,
r4 = (.tuple #[(.pointer p1), v1]) ∧
∃ J1 : Heap → Prop, (
Runs Tryz.prog 7 #[(.int .i64 which), (.int .i64 (11 : Int))] h6 fun r5 h7 =>
∃ n2 : Int,
r5 = (.int .i64 n2) ∧
bcase (decide (n2 = (0 : Int))) (
∀ (b2 : Nat) (h8 : Heap), b2 = h7.size → h8 = h7.push (.cells ([(.int .i64 (0 : Int)), (.int .i64 (513 : Int)), (.int .i64 (-1 : Int))] : List Value).toArray 3) →
(0 ≤ n1 ∧ n1 < ((3 : Nat) : Int)) ∧
∃ n3 : Int, cell h8 b2 (0 + (n1).toNat) = some (.int .i64 n3) ∧
wr h8 b1 7 ∧ ∀ h9 : Heap, h9 = setc h8 b1 7 (.int .i64 n3) →
J1 h9) (
bcase (decide (n2 = (1 : Int))) (
∀ (b3 : Nat) (h10 : Heap), b3 = h7.size → h10 = h7.push (.cells ([(.int .i64 (0 : Int)), (.int .i64 (1048577 : Int)), (.int .i64 (-1 : Int))] : List Value).toArray 3) →
(0 ≤ n1 ∧ n1 < ((3 : Nat) : Int)) ∧
∃ n4 : Int, cell h10 b3 (0 + (n1).toNat) = some (.int .i64 n4) ∧
wr h10 b1 8 ∧ ∀ h11 : Heap, h11 = setc h10 b1 8 (.int .i64 n4) →
J1 h11) (
bcase (decide (n2 = (2 : Int))) (
∀ (b4 : Nat) (h12 : Heap), b4 = h7.size → h12 = h7.push (.cells ([(.int .i64 (-1 : Int)), (.int .i64 (1073741825 : Int)), (.int .i64 (-5 : Int))] : List Value).toArray 2) →
(0 ≤ n1 ∧ n1 < ((3 : Nat) : Int)) ∧
∃ n5 : Int, cell h12 b4 (0 + (n1).toNat) = some (.int .i64 n5) ∧
wr h12 b1 9 ∧ ∀ h13 : Heap, h13 = setc h12 b1 9 (.int .i64 n5) →
J1 h13) (
bcase (decide (n2 = (3 : Int))) (
∀ (b5 : Nat) (h14 : Heap), b5 = h7.size → h14 = h7.push (.cells ([(.int .i64 (-1 : Int)), (.int .i64 (1073741825 : Int)), (.int .i64 (-5 : Int))] : List Value).toArray 2) →
(0 ≤ n1 ∧ n1 < ((3 : Nat) : Int)) ∧
∃ n6 : Int, cell h14 b5 (0 + (n1).toNat) = some (.int .i64 n6) ∧
wr h14 b1 10 ∧ ∀ h15 : Heap, h15 = setc h14 b1 10 (.int .i64 n6) →
J1 h15) (
bcase (decide (n2 = (4 : Int))) (
∀ (b6 : Nat) (h16 : Heap), b6 = h7.size → h16 = h7.push (.cells ([(.int .i64 (0 : Int)), (.int .i64 (65 : Int)), (.int .i64 (-1 : Int))] : List Value).toArray 3) →
(0 ≤ n1 ∧ n1 < ((3 : Nat) : Int)) ∧
∃ n7 : Int, cell h16 b6 (0 + (n1).toNat) = some (.int .i64 n7) ∧
wr h16 b1 11 ∧ ∀ h17 : Heap, h17 = setc h16 b1 11 (.int .i64 n7) →
J1 h17) (
bcase (decide (n2 = (5 : Int))) (
∀ (b7 : Nat) (h18 : Heap), b7 = h7.size → h18 = h7.push (.cells ([(.int .i64 (-1 : Int)), (.int .i64 (16 : Int)), (.int .i64 (-9 : Int))] : List Value).toArray 3) →
(0 ≤ n1 ∧ n1 < ((3 : Nat) : Int)) ∧
∃ n8 : Int, cell h18 b7 (0 + (n1).toNat) = some (.int .i64 n8) ∧
wr h18 b1 12 ∧ ∀ h19 : Heap, h19 = setc h18 b1 12 (.int .i64 n8) →
J1 h19) (
bcase (decide (n2 = (6 : Int))) (
∀ (b8 : Nat) (h20 : Heap), b8 = h7.size → h20 = h7.push (.cells ([(.int .i64 (0 : Int)), (.int .i64 (1099511627777 : Int)), (.int .i64 (-1 : Int))] : List Value).toArray 2) →
(0 ≤ n1 ∧ n1 < ((3 : Nat) : Int)) ∧
∃ n9 : Int, cell h20 b8 (0 + (n1).toNat) = some (.int .i64 n9) ∧
wr h20 b1 13 ∧ ∀ h21 : Heap, h21 = setc h20 b1 13 (.int .i64 n9) →
J1 h21) (
bcase (decide (n2 = (7 : Int))) (
∀ (b9 : Nat) (h22 : Heap), b9 = h7.size → h22 = h7.push (.cells ([(.int .i64 (0 : Int)), (.int .i64 (65536 : Int)), (.int .i64 (-1 : Int))] : List Value).toArray 3) →
(0 ≤ n1 ∧ n1 < ((3 : Nat) : Int)) ∧
∃ n10 : Int, cell h22 b9 (0 + (n1).toNat) = some (.int .i64 n10) ∧
wr h22 b1 14 ∧ ∀ h23 : Heap, h23 = setc h22 b1 14 (.int .i64 n10) →
J1 h23) (
bcase (decide (n2 = (8 : Int))) (
∀ (b10 : Nat) (h24 : Heap), b10 = h7.size → h24 = h7.push (.cells ([(.int .i64 (-1 : Int)), (.int .i64 (54841 : Int)), (.int .i64 (-7 : Int))] : List Value).toArray 2) →
(0 ≤ n1 ∧ n1 < ((3 : Nat) : Int)) ∧
∃ n11 : Int, cell h24 b10 (0 + (n1).toNat) = some (.int .i64 n11) ∧
(0 ≤ n1 ∧ n1 < ((4 : Nat) : Int)) ∧
wr h24 b1 (15 + (n1).toNat) ∧ ∀ h25 : Heap, h25 = setc h24 b1 (15 + (n1).toNat) (.int .i64 n11) →
J1 h25) (
bcase (decide (n2 = (9 : Int))) (
∀ (b11 : Nat) (h26 : Heap), b11 = h7.size → h26 = h7.push (.cells ([(.int .i64 (-1 : Int)), (.int .i64 (1099511627777 : Int)), (.int .i64 (-7 : Int))] : List Value).toArray 2) →
(0 ≤ n1 ∧ n1 < ((3 : Nat) : Int)) ∧
∃ n12 : Int, cell h26 b11 (0 + (n1).toNat) = some (.int .i64 n12) ∧
wr h26 b1 20 ∧ ∀ h27 : Heap, h27 = setc h26 b1 20 (.int .i64 n12) →
J1 h27) (
([(.int .u8 (0 : Int)), (.int .u8 (0 : Int)), (.int .u8 (0 : Int)), (.int .u8 (0 : Int)), (.int .u8 (0 : Int)), (.int .u8 (0 : Int))] : List Value).length = 6 ∧
([(.int .u8 (1 : Int)), (.int .u8 (0 : Int)), (.int .u8 (0 : Int)), (.int .u8 (0 : Int)), (.int .u8 (0 : Int)), (.int .u8 (0 : Int))] : List Value).length = 6 ∧
([(.int .u8 (3 : Int)), (.int .u8 (4 : Int)), (.int .u8 (0 : Int)), (.int .u8 (0 : Int)), (.int .u8 (0 : Int)), (.int .u8 (0 : Int))] : List Value).length = 6 ∧
∀ (b12 : Nat) (h28 : Heap), b12 = h7.size → h28 = h7.push (.cells ([(.int .u8 (0 : Int)), (.int .u8 (0 : Int)), (.int .u8 (0 : Int)), (.int .u8 (0 : Int)), (.int .u8 (0 : Int)), (.int .u8 (0 : Int)), (.int .u8 (1 : Int)), (.int .u8 (0 : Int)), (.int .u8 (0 : Int)), (.int .u8 (0 : Int)), (.int .u8 (0 : Int)), (.int .u8 (0 : Int)), (.int .u8 (3 : Int)), (.int .u8 (4 : Int)), (.int .u8 (0 : Int)), (.int .u8 (0 : Int)), (.int .u8 (0 : Int)), (.int .u8 (0 : Int))] : List Value).toArray 24) →
(0 ≤ n1 ∧ n1 < ((3 : Nat) : Int)) ∧
∃ cs3 : List Value, row h28 b12 (0 + ((n1).toNat * 6)) 6 = some cs3 ∧
(((cs3)).length = 6 ∧ wrs h28 b1 0 6 ∧ ∀ u ∈ ((cs3) : List Value), u.oneCell' = true) ∧ ∀ h29 : Heap, h29 = setr h28 b1 0 (cs3) →
J1 h29))))))))))) ∧ ∀ _ : Env,
∀ (h30 : Heap), J1 h30 →
∃ cs4 : List Value, row h30 b1 0 21 = some cs4 ∧
Runs Tryz.prog 8 #[(.agg (cs4).toArray)] h30 fun r6 h31 =>
∃ p2 : Option Addr,
∃ v2 : Value,
r6 = (.tuple #[(.pointer p2), v2]) ∧
∃ J2 : Bool → Heap → Prop, (
bcase t1 (
J2 (!(isNilAddr p1)) h31) (
J2 false h31)) ∧ ∀ _ : Env,
∀ (x1 : Bool) (h32 : Heap), J2 x1 h32 →
∃ J3 : Bool → Heap → Prop, (
bcase x1 (
∃ t2 : Bool, ifeqH Tryz.prog h32 true (v1) (.nilIface) = some t2 ∧
J3 t2 h32) (
J3 false h32)) ∧ ∀ _ : Env,
∀ (x2 : Bool) (h33 : Heap), J3 x2 h33 →
∃ J4 : Bool → Heap → Prop, (
bcase x2 (
J4 (isNilAddr p2) h33) (
J4 false h33)) ∧ ∀ _ : Env,
∀ (x3 : Bool) (h34 : Heap), J4 x3 h34 →
bcase x3 (
Runs Tryz.prog 9 #[v2, (.int .i64 (103 : Int))] h34 fun r7 h35 =>
∃ t3 : Bool,
r7 = (.bool t3) ∧
Post (.bool t3) h35) (
Post (.bool false) h34))) :
    Runs Tryz.prog 3 #[(.int .i64 n), (.int .i64 which), (.int .i64 far)] h0 Post :=
  runs_of (args := [(.int .i64 n), (.int .i64 which), (.int .i64 far)]) (fun n => ⟨true, false⟩) (fun _ => []) (fun n => match n with | 29 => some [] | _ => none) (fun n => match n with | 30 => [(5, [(116, .bool)]), (4, [(120, .bool)]), (4, [(124, .bool)])] | _ => []) Tryz.func3 rfl (by rw [Tryz.ntmps3]; simp) (Eq.mp (by kernel_rfl) H)
end Go.Proofs.YtgjbgcgjcamlgaaGreatDoor
