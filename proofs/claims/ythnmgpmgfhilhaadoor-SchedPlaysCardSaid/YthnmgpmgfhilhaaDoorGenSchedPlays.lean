/- The conditions for calls of functions of the program, in plain form: written by a program (vcgen) off the elaborated code; each is the reckoner's own, by the kernel. -/
import Derived.Test.YthnmgpmgfhilhaaDoorRows
import Derived.Test.YthnmgpmgfhilhaaDoorVc
set_option linter.unusedVariables false
set_option maxRecDepth 100000
namespace Go.Proofs.YthnmgpmgfhilhaaDoor
open Go.Vc
theorem vc_muezzinlaw20_SchedPlays (l : Option Addr) (lL lC : Nat) (h0 : Heap) (Post : Value → Heap → Prop) (H :
Runs Tryd.prog 8 #[] h0 fun r1 h1 =>
∃ t1 : Bool,
r1 = (.bool t1) ∧
bcase (!t1) (
Post (.bool false) h1) (
bcase (decide ((100 : Int) < ((lL : Nat) : Int))) (
Post (.bool t1) h1) (
Runs Tryd.prog 10 #[] h1 fun r2 h2 =>
∃ p1 : Option Addr,
r2 = (.pointer p1) ∧
∀ (b1 : Nat) (h3 : Heap), b1 = h2.size → h3 = h2.push (.cells ([(.slice none 0 0)] : List Value).toArray 47) →
bcase (isNilAddr p1) (
Post (.bool false) h3) (
∃ (I1 : Int → Heap → Prop) (m1 : Int → Heap → Nat), I1 (0 : Int) h3 ∧ ∀ _ : Env,
∀ (i_1 : Int) (h4 : Heap), I1 i_1 h4 →
bcase (decide (i_1 < ((lL : Nat) : Int))) (
(0 ≤ i_1 ∧ i_1 < ((lL : Nat) : Int)) ∧
onAddr l fun b2 o1 =>
∃ cs1 : List Value, row h4 b2 (o1 + ((i_1).toNat * 5)) 5 = some cs1 ∧
∀ (b3 : Nat) (h5 : Heap), b3 = h4.size → h5 = h4.push (.cells ([(.int .i64 (0 : Int)), (.int .i64 (0 : Int)), (.int .i64 (0 : Int)), (.int .i64 (0 : Int)), (.bool false)] : List Value).toArray 49) →
(((cs1)).length = 5 ∧ wrs h5 b3 0 5 ∧ ∀ u ∈ ((cs1) : List Value), u.oneCell' = true) ∧ ∀ h6 : Heap, h6 = setr h5 b3 0 (cs1) →
Runs Tryd.prog 21 #[(.pointer p1)] h6 fun r3 h7 =>
∃ p2 : Option Addr,
r3 = (.pointer p2) ∧
Runs Tryd.prog 13 #[(.pointer p2)] h7 fun r4 h8 =>
∃ (s1 : Option Addr) (s1l s1c : Nat),
r4 = (.slice s1 s1l s1c) ∧
∃ J1 : Heap → Prop, (
∃ n1 : Int, cell h8 b3 0 = some (.int .i64 n1) ∧
bcase (decide (n1 = (1 : Int))) (
∃ n2 : Int, cell h8 b3 1 = some (.int .i64 n2) ∧
∃ n3 : Int, cell h8 b3 2 = some (.int .i64 n3) ∧
∃ n4 : Int, cell h8 b3 1 = some (.int .i64 n4) ∧
∃ n5 : Int, cell h8 b3 2 = some (.int .i64 n5) ∧
Runs Tryd.prog 11 #[(.pointer p1), (.int .i64 n2), (.int .i64 n3)] h8 fun r5 h9 =>
∃ v1 : Value,
r5 = v1 ∧
cell h9 b3 2 = some (.int .i64 n5) ∧
cell h9 b3 1 = some (.int .i64 n4) ∧
Runs Tryd.prog 22 #[(.pointer (some ⟨b1, 0, none⟩)), (.int .i64 n4), (.int .i64 n5)] h9 fun r6 h10 =>
∃ n6 : Int,
r6 = (.int .i64 n6) ∧
Runs Tryd.prog 18 #[v1, (.int .i64 n6)] h10 fun r7 h11 =>
∃ t2 : Bool,
r7 = (.bool t2) ∧
bcase (!t2) (
Post (.bool false) h11) (
J1 h11)) (
bcase (decide (n1 = (2 : Int))) (
∃ n7 : Int, cell h8 b3 1 = some (.int .i64 n7) ∧
∃ n8 : Int, cell h8 b3 1 = some (.int .i64 n8) ∧
Runs Tryd.prog 19 #[(.pointer p1), (.int .i64 n7)] h8 fun r8 h12 =>
∃ v2 : Value,
r8 = v2 ∧
cell h12 b3 1 = some (.int .i64 n8) ∧
Runs Tryd.prog 23 #[(.pointer (some ⟨b1, 0, none⟩)), (.int .i64 n8)] h12 fun r9 h13 =>
∃ n9 : Int,
r9 = (.int .i64 n9) ∧
Runs Tryd.prog 18 #[v2, (.int .i64 n9)] h13 fun r10 h14 =>
∃ t3 : Bool,
r10 = (.bool t3) ∧
bcase (!t3) (
Post (.bool false) h14) (
J1 h14)) (
bcase (decide (n1 = (3 : Int))) (
∃ n10 : Int, cell h8 b3 1 = some (.int .i64 n10) ∧
∃ n11 : Int, cell h8 b3 2 = some (.int .i64 n11) ∧
∃ n12 : Int, cell h8 b3 1 = some (.int .i64 n12) ∧
∃ n13 : Int, cell h8 b3 2 = some (.int .i64 n13) ∧
Runs Tryd.prog 16 #[(.pointer p1), (.int .i64 n10), (.int .i64 n11)] h8 fun r11 h15 =>
∃ v3 : Value,
r11 = v3 ∧
cell h15 b3 2 = some (.int .i64 n13) ∧
cell h15 b3 1 = some (.int .i64 n12) ∧
Runs Tryd.prog 24 #[(.pointer (some ⟨b1, 0, none⟩)), (.int .i64 n12), (.int .i64 n13)] h15 fun r12 h16 =>
∃ n14 : Int,
r12 = (.int .i64 n14) ∧
Runs Tryd.prog 18 #[v3, (.int .i64 n14)] h16 fun r13 h17 =>
∃ t4 : Bool,
r13 = (.bool t4) ∧
bcase (!t4) (
Post (.bool false) h17) (
J1 h17)) (
bcase (decide (n1 = (4 : Int))) (
∃ n15 : Int, cell h8 b3 1 = some (.int .i64 n15) ∧
∃ t5 : Bool, cell h8 b3 4 = some (.bool t5) ∧
∃ n16 : Int, cell h8 b3 1 = some (.int .i64 n16) ∧
∃ t6 : Bool, cell h8 b3 4 = some (.bool t6) ∧
Runs Tryd.prog 12 #[(.pointer p1), (.int .i64 n15), (.bool t5)] h8 fun r14 h18 =>
∃ v4 : Value,
r14 = v4 ∧
cell h18 b3 4 = some (.bool t6) ∧
cell h18 b3 1 = some (.int .i64 n16) ∧
Runs Tryd.prog 25 #[(.pointer (some ⟨b1, 0, none⟩)), (.int .i64 n16), (.bool t6)] h18 fun r15 h19 =>
∃ n17 : Int,
r15 = (.int .i64 n17) ∧
Runs Tryd.prog 18 #[v4, (.int .i64 n17)] h19 fun r16 h20 =>
∃ t7 : Bool,
r16 = (.bool t7) ∧
bcase (!t7) (
Post (.bool false) h20) (
J1 h20)) (
∃ n18 : Int, cell h8 b3 1 = some (.int .i64 n18) ∧
∃ n19 : Int, cell h8 b3 3 = some (.int .i64 n19) ∧
∃ n20 : Int, cell h8 b3 1 = some (.int .i64 n20) ∧
∃ n21 : Int, cell h8 b3 3 = some (.int .i64 n21) ∧
Runs Tryd.prog 14 #[(.pointer p1), (.int .i64 n18), (.int .i64 n19)] h8 fun r17 h21 =>
∃ v5 : Value,
r17 = v5 ∧
cell h21 b3 3 = some (.int .i64 n21) ∧
cell h21 b3 1 = some (.int .i64 n20) ∧
Runs Tryd.prog 26 #[(.pointer (some ⟨b1, 0, none⟩)), (.int .i64 n20), (.int .i64 n21)] h21 fun r18 h22 =>
∃ n22 : Int,
r18 = (.int .i64 n22) ∧
Runs Tryd.prog 18 #[v5, (.int .i64 n22)] h22 fun r19 h23 =>
∃ t8 : Bool,
r19 = (.bool t8) ∧
bcase (!t8) (
Post (.bool false) h23) (
J1 h23)))))) ∧ ∀ _ : Env,
∀ (h24 : Heap), J1 h24 →
Runs Tryd.prog 13 #[(.pointer p1)] h24 fun r20 h25 =>
∃ (s2 : Option Addr) (s2l s2c : Nat),
r20 = (.slice s2 s2l s2c) ∧
Runs Tryd.prog 27 #[(.pointer (some ⟨b1, 0, none⟩))] h25 fun r21 h26 =>
∃ (s3 : Option Addr) (s3l s3c : Nat),
r21 = (.slice s3 s3l s3c) ∧
Runs Tryd.prog 17 #[(.slice s2 s2l s2c), (.slice s3 s3l s3c)] h26 fun r22 h27 =>
∃ t9 : Bool,
r22 = (.bool t9) ∧
bcase (!t9) (
Post (.bool false) h27) (
Runs Tryd.prog 13 #[(.pointer p2)] h27 fun r23 h28 =>
∃ (s4 : Option Addr) (s4l s4c : Nat),
r23 = (.slice s4 s4l s4c) ∧
Runs Tryd.prog 17 #[(.slice s4 s4l s4c), (.slice s1 s1l s1c)] h28 fun r24 h29 =>
∃ t10 : Bool,
r24 = (.bool t10) ∧
bcase (!t10) (
Post (.bool false) h29) (
∃ (I2 : Int → Heap → Prop) (m2 : Int → Heap → Nat), I2 (0 : Int) h29 ∧ ∀ _ : Env,
∀ (a_1 : Int) (h30 : Heap), I2 a_1 h30 →
bcase (decide (a_1 ≤ (17 : Int))) (
Runs Tryd.prog 15 #[(.pointer p1), (.int .i64 a_1)] h30 fun r25 h31 =>
∃ n23 : Int,
∃ t11 : Bool,
r25 = (.tuple #[(.int .i64 n23), (.bool t11)]) ∧
Runs Tryd.prog 28 #[(.pointer (some ⟨b1, 0, none⟩)), (.int .i64 a_1)] h31 fun r26 h32 =>
∃ n24 : Int,
r26 = (.int .i64 n24) ∧
bcase (!(t11 == (decide ((0 : Int) ≤ n24)))) (
Post (.bool false) h32) (
bcase t11 (
∃ (s5 : Option Addr) (s5l s5c : Nat), cell h32 b1 0 = some (.slice s5 s5l s5c) ∧
(0 ≤ n24 ∧ n24 < ((s5l : Nat) : Int)) ∧
onAddr s5 fun b4 o2 =>
∃ n25 : Int, cell h32 b4 ((o2 + ((n24).toNat * 4)) + 2) = some (.int .i64 n25) ∧
bcase (!decide (n23 = n25)) (
Post (.bool false) h32) (
fits .i64 (a_1 + (1 : Int)) ∧
I2 (a_1 + (1 : Int)) h32 ∧ m2 (a_1 + (1 : Int)) h32 < m2 a_1 h30)) (
fits .i64 (a_1 + (1 : Int)) ∧
I2 (a_1 + (1 : Int)) h32 ∧ m2 (a_1 + (1 : Int)) h32 < m2 a_1 h30))) (
fits .i64 (i_1 + (1 : Int)) ∧
I1 (i_1 + (1 : Int)) h30 ∧ m1 (i_1 + (1 : Int)) h30 < m1 i_1 h4)))) (
Post (.bool t1) h4))))) :
    Runs Tryd.prog 7 #[(.slice l lL lC)] h0 Post :=
  runs_of (args := [(.slice l lL lC)]) (fun n => ⟨true, false⟩) (fun n => match n with | 0 => [(6, .int .i64)] | 3 => [(10, .int .i64)] | _ => []) (fun n => match n with | 31 => some [] | _ => none) (fun _ => []) Tryd.func7 rfl (by rw [Tryd.ntmps7]; simp) (Eq.mp (by kernel_rfl) H)
end Go.Proofs.YthnmgpmgfhilhaaDoor
