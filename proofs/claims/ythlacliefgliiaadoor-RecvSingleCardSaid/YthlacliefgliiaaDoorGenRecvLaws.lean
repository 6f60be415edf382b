/- The conditions for calls of functions of the program, in plain form: written by a program (vcgen) off the elaborated code; each is the reckoner's own, by the kernel. -/
import Derived.Test.YthlacliefgliiaaDoorRows
import Derived.Test.YthlacliefgliiaaDoorVc
set_option linter.unusedVariables false
set_option maxRecDepth 100000
namespace Go.Proofs.YthlacliefgliiaaDoor
open Go.Vc
theorem vc_muezzinlaw24_first  (h0 : Heap) (Post : Value → Heap → Prop) (H :
Runs Tryd.prog 11 #[] h0 fun r1 h1 =>
∃ cs1 : List Value,
r1 = (.agg (cs1).toArray) ∧
Runs Tryd.prog 12 #[] h1 fun r2 h2 =>
∃ cs2 : List Value,
r2 = (.agg (cs2).toArray) ∧
Runs Tryd.prog 10 #[(.agg (cs1).toArray), (.agg (cs2).toArray), (.int .i64 (8 : Int))] h2 fun r3 h3 =>
∃ p1 : Option Addr,
∃ v1 : Value,
r3 = (.tuple #[(.pointer p1), v1]) ∧
bcase (isNilAddr p1) (
Post (.bool false) h3) (
∃ t1 : Bool, ifeqH Tryd.prog h3 true (v1) (.nilIface) = some t1 ∧
bcase (!t1) (
Post (.bool false) h3) (
Runs Tryd.prog 14 #[(.pointer p1), (.bool false), (.slice none 0 0)] h3 fun r4 h4 =>
∃ (s1 : Option Addr) (s1l s1c : Nat),
∃ (s2 : Option Addr) (s2l s2c : Nat),
r4 = (.tuple #[(.slice s1 s1l s1c), (.slice s2 s2l s2c)]) ∧
∀ (b1 : Nat) (h5 : Heap), b1 = h4.size → h5 = h4.push (.cells ([(.int .u8 (7 : Int))] : List Value).toArray 5) →
Runs Tryd.prog 15 #[(.agg #[(.int .i64 (0 : Int)), (.int .i64 (0 : Int)), (.int .i64 (0 : Int)), (.int .i64 (0 : Int)), (.bool false), (.bool false), (.int .u32 (0 : Int)), (.slice (some ⟨b1, 0, none⟩) 1 1)]), (.int .i64 (3 : Int))] h5 fun r5 h6 =>
∃ (s3 : Option Addr) (s3l s3c : Nat),
r5 = (.slice s3 s3l s3c) ∧
Runs Tryd.prog 14 #[(.pointer p1), (.bool false), (.slice s3 s3l s3c)] h6 fun r6 h7 =>
∃ (s4 : Option Addr) (s4l s4c : Nat),
∃ (s5 : Option Addr) (s5l s5c : Nat),
r6 = (.tuple #[(.slice s4 s4l s4c), (.slice s5 s5l s5c)]) ∧
bcase (decide (((s1l : Nat) : Int) = (0 : Int))) (
bcase (decide (((s2l : Nat) : Int) = (0 : Int))) (
bcase (decide (((s4l : Nat) : Int) = (1 : Int))) (
bcase (decide (((s5l : Nat) : Int) = (28 : Int))) (
Runs Tryd.prog 21 #[(.pointer p1), (.int .i64 (0 : Int)), (.int .i64 (3 : Int))] h7 fun r7 h8 =>
∃ t2 : Bool,
r7 = (.bool t2) ∧
Post (.bool t2) h8) (
Post (.bool false) h7)) (
Post (.bool false) h7)) (
Post (.bool false) h7)) (
Post (.bool false) h7)))) :
    Runs Tryd.prog 9 #[] h0 Post :=
  runs_of (args := []) (fun n => ⟨true, false⟩) (fun _ => []) (fun _ => none) (fun _ => []) Tryd.func9 rfl (by rw [Tryd.ntmps9]; simp) (Eq.mp (by kernel_rfl) H)

theorem vc_muezzinlaw24_RecvSingle (l : Option Addr) (lL lC : Nat) (again : Option Addr) (againL againC : Nat) (h0 : Heap) (Post : Value → Heap → Prop) (H :
Runs Tryd.prog 9 #[] h0 fun r1 h1 =>
∃ t1 : Bool,
r1 = (.bool t1) ∧
bcase (!t1) (
Post (.bool false) h1) (
bcase (decide ((40 : Int) < ((lL : Nat) : Int))) (
Post (.bool t1) h1) (
bcase (decide ((40 : Int) < ((againL : Nat) : Int))) (
Post (.bool t1) h1) (
Runs Tryd.prog 11 #[] h1 fun r2 h2 =>
∃ cs1 : List Value,
r2 = (.agg (cs1).toArray) ∧
Runs Tryd.prog 12 #[] h2 fun r3 h3 =>
∃ cs2 : List Value,
r3 = (.agg (cs2).toArray) ∧
Runs Tryd.prog 10 #[(.agg (cs1).toArray), (.agg (cs2).toArray), (.int .i64 (8 : Int))] h3 fun r4 h4 =>
∃ p1 : Option Addr,
∃ v1 : Value,
r4 = (.tuple #[(.pointer p1), v1]) ∧
bcase (isNilAddr p1) (
Post (.bool false) h4) (
∃ t2 : Bool, ifeqH Tryd.prog h4 true (v1) (.nilIface) = some t2 ∧
bcase (!t2) (
Post (.bool false) h4) (
∃ (I1 : Int → Int → Heap → Prop) (m1 : Int → Int → Heap → Nat), I1 (-1 : Int) (0 : Int) h4 ∧ ∀ _ : Env,
∀ (last_1 : Int) (i_1 : Int) (h5 : Heap), I1 last_1 i_1 h5 →
bcase (decide (i_1 < ((lL : Nat) : Int))) (
(0 ≤ i_1 ∧ i_1 < ((lL : Nat) : Int)) ∧
onAddr l fun b1 o1 =>
∃ n1 : Int, cell h5 b1 (o1 + (i_1).toNat) = some (.int .i64 n1) ∧
Runs Tryd.prog 13 #[(.int .i64 n1), (.int .i64 (5 : Int))] h5 fun r5 h6 =>
∃ n2 : Int,
r5 = (.int .i64 n2) ∧
bcase (decide (i_1 < ((againL : Nat) : Int))) (
(0 ≤ i_1 ∧ i_1 < ((againL : Nat) : Int)) ∧
onAddr again fun b2 o2 =>
∃ t3 : Bool, cell h6 b2 (o2 + (i_1).toNat) = some (.bool t3) ∧
fits .u8 i_1 ∧
∀ (b3 : Nat) (h7 : Heap), b3 = h6.size → h7 = h6.push (.cells ([(.int .u8 i_1)] : List Value).toArray 5) →
Runs Tryd.prog 15 #[(.agg #[(.int .i64 (0 : Int)), (.int .i64 (2 : Int)), (.int .i64 (0 : Int)), (.int .i64 (0 : Int)), (.bool t3), (.bool false), (.int .u32 (0 : Int)), (.slice (some ⟨b3, 0, none⟩) 1 1)]), (.int .i64 n2)] h7 fun r6 h8 =>
∃ (s1 : Option Addr) (s1l s1c : Nat),
r6 = (.slice s1 s1l s1c) ∧
Runs Tryd.prog 14 #[(.pointer p1), (.bool false), (.slice s1 s1l s1c)] h8 fun r7 h9 =>
∃ (s2 : Option Addr) (s2l s2c : Nat),
∃ (s3 : Option Addr) (s3l s3c : Nat),
r7 = (.tuple #[(.slice s2 s2l s2c), (.slice s3 s3l s3c)]) ∧
Runs Tryd.prog 16 #[(.slice s3 s3l s3c)] h9 fun r8 h10 =>
∃ cs3 : List Value,
∃ n3 : Int,
r8 = (.tuple #[(.agg (cs3).toArray), (.int .i64 n3)]) ∧
∀ (b4 : Nat) (h11 : Heap), b4 = h10.size → h11 = h10.push (.cells ([(.int .u8 (0 : Int)), (.int .u8 (0 : Int)), (.int .u8 (0 : Int)), (.int .u8 (0 : Int)), (.int .u8 (0 : Int)), (.int .u8 (0 : Int)), (.int .u8 (0 : Int)), (.int .u8 (0 : Int)), (.int .u8 (0 : Int)), (.int .u8 (0 : Int)), (.int .u8 (0 : Int)), (.int .u8 (0 : Int)), (.int .i64 (0 : Int)), (.int .i64 (0 : Int)), (.int .u64 (0 : Int))] : List Value).toArray 44) →
(((cs3)).length = 15 ∧ wrs h11 b4 0 15 ∧ ∀ u ∈ ((cs3) : List Value), u.oneCell' = true) ∧ ∀ h12 : Heap, h12 = setr h11 b4 0 (cs3) →
bcase t3 (
bcase (!((decide (((s2l : Nat) : Int) = (0 : Int))) == (decide (n2 = last_1)))) (
Post (.bool false) h12) (
bcase (decide ((1 : Int) < ((s2l : Nat) : Int))) (
Post (.bool false) h12) (
bcase (!decide (n3 = (0 : Int))) (
Post (.bool false) h12) (
∃ n4 : Int, cell h12 b4 13 = some (.int .i64 n4) ∧
bcase (!decide (n4 = n2)) (
Post (.bool false) h12) (
∃ n5 : Int, cell h12 b4 14 = some (.int .u64 n5) ∧
bcase (!decide (n5 = (1 : Int))) (
Post (.bool false) h12) (
∃ n6 : Int, cell h12 b4 12 = some (.int .i64 n6) ∧
bcase (!decide (n6 = (2 : Int))) (
Post (.bool false) h12) (
∃ cs4 : List Value, row h12 b4 0 6 = some cs4 ∧
Runs Tryd.prog 12 #[] h12 fun r9 h13 =>
∃ cs5 : List Value,
r9 = (.agg (cs5).toArray) ∧
row h13 b4 0 6 = some (cs4) ∧
cell h13 b4 12 = some (.int .i64 n6) ∧
cell h13 b4 14 = some (.int .u64 n5) ∧
cell h13 b4 13 = some (.int .i64 n4) ∧
Runs Tryd.prog 17 #[(.agg (cs4).toArray), (.agg (cs5).toArray)] h13 fun r10 h14 =>
∃ t4 : Bool,
r10 = (.bool t4) ∧
cell h14 b4 12 = some (.int .i64 n6) ∧
cell h14 b4 14 = some (.int .u64 n5) ∧
cell h14 b4 13 = some (.int .i64 n4) ∧
bcase (!t4) (
Post (.bool false) h14) (
∃ cs6 : List Value, row h14 b4 6 6 = some cs6 ∧
Runs Tryd.prog 11 #[] h14 fun r11 h15 =>
∃ cs7 : List Value,
r11 = (.agg (cs7).toArray) ∧
row h15 b4 6 6 = some (cs6) ∧
cell h15 b4 12 = some (.int .i64 n6) ∧
cell h15 b4 14 = some (.int .u64 n5) ∧
cell h15 b4 13 = some (.int .i64 n4) ∧
Runs Tryd.prog 17 #[(.agg (cs6).toArray), (.agg (cs7).toArray)] h15 fun r12 h16 =>
∃ t5 : Bool,
r12 = (.bool t5) ∧
cell h16 b4 12 = some (.int .i64 n6) ∧
cell h16 b4 14 = some (.int .u64 n5) ∧
cell h16 b4 13 = some (.int .i64 n4) ∧
bcase (!t5) (
Post (.bool false) h16) (
fits .i64 (i_1 + (1 : Int)) ∧
I1 n2 (i_1 + (1 : Int)) h16 ∧ m1 n2 (i_1 + (1 : Int)) h16 < m1 last_1 i_1 h5))))))))) (
bcase (!((decide (((s2l : Nat) : Int) = (0 : Int))) == false)) (
Post (.bool false) h12) (
bcase (decide ((1 : Int) < ((s2l : Nat) : Int))) (
Post (.bool false) h12) (
bcase (!decide (n3 = (0 : Int))) (
Post (.bool false) h12) (
∃ n7 : Int, cell h12 b4 13 = some (.int .i64 n7) ∧
bcase (!decide (n7 = n2)) (
Post (.bool false) h12) (
∃ n8 : Int, cell h12 b4 14 = some (.int .u64 n8) ∧
bcase (!decide (n8 = (1 : Int))) (
Post (.bool false) h12) (
∃ n9 : Int, cell h12 b4 12 = some (.int .i64 n9) ∧
bcase (!decide (n9 = (2 : Int))) (
Post (.bool false) h12) (
∃ cs8 : List Value, row h12 b4 0 6 = some cs8 ∧
Runs Tryd.prog 12 #[] h12 fun r13 h17 =>
∃ cs9 : List Value,
r13 = (.agg (cs9).toArray) ∧
row h17 b4 0 6 = some (cs8) ∧
cell h17 b4 12 = some (.int .i64 n9) ∧
cell h17 b4 14 = some (.int .u64 n8) ∧
cell h17 b4 13 = some (.int .i64 n7) ∧
Runs Tryd.prog 17 #[(.agg (cs8).toArray), (.agg (cs9).toArray)] h17 fun r14 h18 =>
∃ t6 : Bool,
r14 = (.bool t6) ∧
cell h18 b4 12 = some (.int .i64 n9) ∧
cell h18 b4 14 = some (.int .u64 n8) ∧
cell h18 b4 13 = some (.int .i64 n7) ∧
bcase (!t6) (
Post (.bool false) h18) (
∃ cs10 : List Value, row h18 b4 6 6 = some cs10 ∧
Runs Tryd.prog 11 #[] h18 fun r15 h19 =>
∃ cs11 : List Value,
r15 = (.agg (cs11).toArray) ∧
row h19 b4 6 6 = some (cs10) ∧
cell h19 b4 12 = some (.int .i64 n9) ∧
cell h19 b4 14 = some (.int .u64 n8) ∧
cell h19 b4 13 = some (.int .i64 n7) ∧
Runs Tryd.prog 17 #[(.agg (cs10).toArray), (.agg (cs11).toArray)] h19 fun r16 h20 =>
∃ t7 : Bool,
r16 = (.bool t7) ∧
cell h20 b4 12 = some (.int .i64 n9) ∧
cell h20 b4 14 = some (.int .u64 n8) ∧
cell h20 b4 13 = some (.int .i64 n7) ∧
bcase (!t7) (
Post (.bool false) h20) (
fits .i64 (i_1 + (1 : Int)) ∧
I1 n2 (i_1 + (1 : Int)) h20 ∧ m1 n2 (i_1 + (1 : Int)) h20 < m1 last_1 i_1 h5)))))))))) (
fits .u8 i_1 ∧
∀ (b5 : Nat) (h21 : Heap), b5 = h6.size → h21 = h6.push (.cells ([(.int .u8 i_1)] : List Value).toArray 5) →
Runs Tryd.prog 15 #[(.agg #[(.int .i64 (0 : Int)), (.int .i64 (2 : Int)), (.int .i64 (0 : Int)), (.int .i64 (0 : Int)), (.bool false), (.bool false), (.int .u32 (0 : Int)), (.slice (some ⟨b5, 0, none⟩) 1 1)]), (.int .i64 n2)] h21 fun r17 h22 =>
∃ (s4 : Option Addr) (s4l s4c : Nat),
r17 = (.slice s4 s4l s4c) ∧
Runs Tryd.prog 14 #[(.pointer p1), (.bool false), (.slice s4 s4l s4c)] h22 fun r18 h23 =>
∃ (s5 : Option Addr) (s5l s5c : Nat),
∃ (s6 : Option Addr) (s6l s6c : Nat),
r18 = (.tuple #[(.slice s5 s5l s5c), (.slice s6 s6l s6c)]) ∧
Runs Tryd.prog 16 #[(.slice s6 s6l s6c)] h23 fun r19 h24 =>
∃ cs12 : List Value,
∃ n10 : Int,
r19 = (.tuple #[(.agg (cs12).toArray), (.int .i64 n10)]) ∧
∀ (b6 : Nat) (h25 : Heap), b6 = h24.size → h25 = h24.push (.cells ([(.int .u8 (0 : Int)), (.int .u8 (0 : Int)), (.int .u8 (0 : Int)), (.int .u8 (0 : Int)), (.int .u8 (0 : Int)), (.int .u8 (0 : Int)), (.int .u8 (0 : Int)), (.int .u8 (0 : Int)), (.int .u8 (0 : Int)), (.int .u8 (0 : Int)), (.int .u8 (0 : Int)), (.int .u8 (0 : Int)), (.int .i64 (0 : Int)), (.int .i64 (0 : Int)), (.int .u64 (0 : Int))] : List Value).toArray 44) →
(((cs12)).length = 15 ∧ wrs h25 b6 0 15 ∧ ∀ u ∈ ((cs12) : List Value), u.oneCell' = true) ∧ ∀ h26 : Heap, h26 = setr h25 b6 0 (cs12) →
bcase (!((decide (((s5l : Nat) : Int) = (0 : Int))) == false)) (
Post (.bool false) h26) (
bcase (decide ((1 : Int) < ((s5l : Nat) : Int))) (
Post (.bool false) h26) (
bcase (!decide (n10 = (0 : Int))) (
Post (.bool false) h26) (
∃ n11 : Int, cell h26 b6 13 = some (.int .i64 n11) ∧
bcase (!decide (n11 = n2)) (
Post (.bool false) h26) (
∃ n12 : Int, cell h26 b6 14 = some (.int .u64 n12) ∧
bcase (!decide (n12 = (1 : Int))) (
Post (.bool false) h26) (
∃ n13 : Int, cell h26 b6 12 = some (.int .i64 n13) ∧
bcase (!decide (n13 = (2 : Int))) (
Post (.bool false) h26) (
∃ cs13 : List Value, row h26 b6 0 6 = some cs13 ∧
Runs Tryd.prog 12 #[] h26 fun r20 h27 =>
∃ cs14 : List Value,
r20 = (.agg (cs14).toArray) ∧
row h27 b6 0 6 = some (cs13) ∧
cell h27 b6 12 = some (.int .i64 n13) ∧
cell h27 b6 14 = some (.int .u64 n12) ∧
cell h27 b6 13 = some (.int .i64 n11) ∧
Runs Tryd.prog 17 #[(.agg (cs13).toArray), (.agg (cs14).toArray)] h27 fun r21 h28 =>
∃ t8 : Bool,
r21 = (.bool t8) ∧
cell h28 b6 12 = some (.int .i64 n13) ∧
cell h28 b6 14 = some (.int .u64 n12) ∧
cell h28 b6 13 = some (.int .i64 n11) ∧
bcase (!t8) (
Post (.bool false) h28) (
∃ cs15 : List Value, row h28 b6 6 6 = some cs15 ∧
Runs Tryd.prog 11 #[] h28 fun r22 h29 =>
∃ cs16 : List Value,
r22 = (.agg (cs16).toArray) ∧
row h29 b6 6 6 = some (cs15) ∧
cell h29 b6 12 = some (.int .i64 n13) ∧
cell h29 b6 14 = some (.int .u64 n12) ∧
cell h29 b6 13 = some (.int .i64 n11) ∧
Runs Tryd.prog 17 #[(.agg (cs15).toArray), (.agg (cs16).toArray)] h29 fun r23 h30 =>
∃ t9 : Bool,
r23 = (.bool t9) ∧
cell h30 b6 12 = some (.int .i64 n13) ∧
cell h30 b6 14 = some (.int .u64 n12) ∧
cell h30 b6 13 = some (.int .i64 n11) ∧
bcase (!t9) (
Post (.bool false) h30) (
fits .i64 (i_1 + (1 : Int)) ∧
I1 n2 (i_1 + (1 : Int)) h30 ∧ m1 n2 (i_1 + (1 : Int)) h30 < m1 last_1 i_1 h5)))))))))) (
Runs Tryd.prog 18 #[(.pointer p1), (.int .i64 (2 : Int))] h5 fun r24 h31 =>
∃ n14 : Int,
∃ n15 : Int,
∃ t10 : Bool,
r24 = (.tuple #[(.int .i64 n14), (.int .i64 n15), (.bool t10)]) ∧
∃ J1 : Bool → Heap → Prop, (
bcase t1 (
J1 (!t10) h31) (
J1 false h31)) ∧ ∀ _ : Env,
∀ (x3 : Bool) (h32 : Heap), J1 x3 h32 →
∃ J2 : Bool → Heap → Prop, (
bcase x3 (
Runs Tryd.prog 19 #[(.pointer p1), (.int .i64 (2 : Int))] h32 fun r25 h33 =>
∃ n16 : Int,
r25 = (.int .i64 n16) ∧
J2 (decide (n16 = (0 : Int))) h33) (
J2 false h32)) ∧ ∀ _ : Env,
∀ (x4 : Bool) (h34 : Heap), J2 x4 h34 →
∃ J3 : Bool → Heap → Prop, (
bcase x4 (
Runs Tryd.prog 20 #[(.pointer p1)] h34 fun r26 h35 =>
∃ (s7 : Option Addr) (s7l s7c : Nat),
r26 = (.slice s7 s7l s7c) ∧
J3 (decide (((s7l : Nat) : Int) = (0 : Int))) h35) (
J3 false h34)) ∧ ∀ _ : Env,
∀ (x5 : Bool) (h36 : Heap), J3 x5 h36 →
bcase x5 (
Runs Tryd.prog 21 #[(.pointer p1), (.int .i64 (2 : Int)), (.int .i64 (0 : Int))] h36 fun r27 h37 =>
∃ t11 : Bool,
r27 = (.bool t11) ∧
Post (.bool (!t11)) h37) (
Post (.bool false) h36)))))))) :
    Runs Tryd.prog 3 #[(.slice l lL lC), (.slice again againL againC)] h0 Post :=
  runs_of (args := [(.slice l lL lC), (.slice again againL againC)]) (fun n => ⟨true, false⟩) (fun n => match n with | 0 => [(8, .int .i64), (9, .int .i64)] | _ => []) (fun _ => none) (fun n => match n with | 22 => [(5, [(143, .bool)]), (5, [(148, .bool)]), (6, [(154, .bool)])] | _ => []) Tryd.func3 rfl (by rw [Tryd.ntmps3]; simp) (Eq.mp (by kernel_rfl) H)
end Go.Proofs.YthlacliefgliiaaDoor
