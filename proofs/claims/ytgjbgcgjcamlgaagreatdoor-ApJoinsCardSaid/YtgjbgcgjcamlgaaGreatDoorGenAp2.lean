/- The conditions for calls of functions of the program, in plain form: written by a program (vcgen) off the elaborated code; each is the reckoner's own, by the kernel. -/
import Derived.Test.YtgjbgcgjcamlgaaGreatDoorRows
import Derived.Test.YtgjbgcgjcamlgaaGreatDoorVc
set_option linter.unusedVariables false
set_option maxRecDepth 100000
namespace Go.Proofs.YtgjbgcgjcamlgaaGreatDoor
open Go.Vc
theorem vc_ap_AP_of (a : Option Addr) (aid : Int) (h0 : Heap) (Post : Value → Heap → Prop) (H :
bcase (decide (aid < (1 : Int))) (
Post (.pointer none) h0) (
bcase (decide ((16 : Int) < aid)) (
Post (.pointer none) h0) (
fits .i64 (aid - (1 : Int)) ∧
onAddr a fun b1 o1 =>
(0 ≤ (aid - (1 : Int)) ∧ (aid - (1 : Int)) < ((16 : Nat) : Int)) ∧
∃ p1 : Option Addr, cell h0 b1 ((o1 + 329) + ((aid - (1 : Int))).toNat) = some (.pointer p1) ∧
Post (.pointer p1) h0))) :
    Runs Tryz.prog 35 #[(.pointer a), (.int .i64 aid)] h0 Post :=
  runs_of (args := [(.pointer a), (.int .i64 aid)]) (fun n => ⟨true, false⟩) (fun _ => []) (fun _ => none) (fun _ => []) Tryz.func35 rfl (by rw [Tryz.ntmps35]; simp) (Eq.mp (by kernel_rfl) H)

theorem vc_ap_AP_Offer (a : Option Addr) (now : Int) (aid : Int) (tid : Int) (flow : Int) (body : Option Addr) (bodyL bodyC : Nat) (h0 : Heap) (Post : Value → Heap → Prop) (H :
Runs Tryz.prog 35 #[(.pointer a), (.int .i64 aid)] h0 fun r1 h1 =>
∃ p1 : Option Addr,
r1 = (.pointer p1) ∧
bcase (isNilAddr p1) (
∃ v1 : Value, cell h1 2 0 = some v1 ∧
Post (.tuple #[(.int .i64 (0 : Int)), v1]) h1) (
bcase (decide (tid < (0 : Int))) (
∃ v2 : Value, cell h1 0 0 = some v2 ∧
Post (.tuple #[(.int .i64 (0 : Int)), v2]) h1) (
bcase (decide ((8 : Int) ≤ tid)) (
∃ v3 : Value, cell h1 0 0 = some v3 ∧
Post (.tuple #[(.int .i64 (0 : Int)), v3]) h1) (
bcase (decide ((1500 : Int) < ((bodyL : Nat) : Int))) (
∃ v4 : Value, cell h1 0 0 = some v4 ∧
Post (.tuple #[(.int .i64 (0 : Int)), v4]) h1) (
onAddr a fun b1 o1 =>
∃ n1 : Int, cell h1 b1 (o1 + 21) = some (.int .i64 n1) ∧
bcase (decide (now < n1)) (
∃ v5 : Value, cell h1 0 0 = some v5 ∧
Post (.tuple #[(.int .i64 (0 : Int)), v5]) h1) (
onAddr a fun b2 o2 =>
wr h1 b2 (o2 + 21) ∧ ∀ h2 : Heap, h2 = setc h1 b2 (o2 + 21) (.int .i64 now) →
onAddr a fun b3 o3 =>
Runs Tryz.prog 36 #[(.pointer (some ⟨b3, (o3 + 310), none⟩))] h2 fun r2 h3 =>
∃ n2 : Int,
r2 = (.int .i64 n2) ∧
onAddr a fun b4 o4 =>
∃ p2 : Option Addr, cell h3 b4 (o4 + 311) = some (.pointer p2) ∧
Runs Tryz.prog 37 #[(.pointer p2), (.int .i64 aid), (.agg #[(.int .i64 n2), (.int .u32 flow), (.int .i64 tid), (.int .i64 now), (.slice body bodyL bodyC)])] h3 fun r3 h4 =>
∃ (s1 : Option Addr) (s1l s1c : Nat),
∃ v6 : Value,
r3 = (.tuple #[(.slice s1 s1l s1c), v6]) ∧
∃ t1 : Bool, ifeqH Tryz.prog h4 true (v6) (.nilIface) = some t1 ∧
bcase (!t1) (
Post (.tuple #[(.int .i64 (0 : Int)), v6]) h4) (
Runs Tryz.prog 38 #[(.pointer a), (.int .i64 (1 : Int)), (.slice s1 s1l s1c)] h4 fun r4 h5 =>
Post (.tuple #[(.int .i64 n2), .nilIface]) h5))))))) :
    Runs Tryz.prog 13 #[(.pointer a), (.int .i64 now), (.int .i64 aid), (.int .i64 tid), (.int .u32 flow), (.slice body bodyL bodyC)] h0 Post :=
  runs_of (args := [(.pointer a), (.int .i64 now), (.int .i64 aid), (.int .i64 tid), (.int .u32 flow), (.slice body bodyL bodyC)]) (fun n => ⟨true, false⟩) (fun _ => []) (fun _ => none) (fun _ => []) Tryz.func13 rfl (by rw [Tryz.ntmps13]; simp) (Eq.mp (by kernel_rfl) H)

theorem vc_ap_AP_Leave (a : Option Addr) (aid : Int) (h0 : Heap) (Post : Value → Heap → Prop) (H :
∀ (b1 : Nat) (h1 : Heap), b1 = h0.size → h1 = h0.push (.cells ([(.int .i64 aid)] : List Value).toArray 3) →
∃ n1 : Int, cell h1 b1 0 = some (.int .i64 n1) ∧
Runs Tryz.prog 35 #[(.pointer a), (.int .i64 n1)] h1 fun r1 h2 =>
∃ p1 : Option Addr,
r1 = (.pointer p1) ∧
bcase (isNilAddr p1) (
∃ v1 : Value, cell h2 2 0 = some v1 ∧
Post v1 h2) (
onAddr a fun b2 o1 =>
∃ p2 : Option Addr, cell h2 b2 (o1 + 311) = some (.pointer p2) ∧
∃ n2 : Int, cell h2 b1 0 = some (.int .i64 n2) ∧
Runs Tryz.prog 39 #[(.pointer p2), (.int .i64 n2)] h2 fun r2 h3 =>
∃ (s1 : Option Addr) (s1l s1c : Nat),
r2 = (.slice s1 s1l s1c) ∧
Runs Tryz.prog 38 #[(.pointer a), (.int .i64 (5 : Int)), (.slice s1 s1l s1c)] h3 fun r3 h4 =>
∃ (I1 : Int → Heap → Prop) (m1 : Int → Heap → Nat), I1 (0 : Int) h4 ∧ ∀ _ : Env,
∀ (x1 : Int) (h5 : Heap), I1 x1 h5 →
bcase (decide (x1 < (8 : Int))) (
onAddr p1 fun b3 o2 =>
(0 ≤ x1 ∧ x1 < ((8 : Nat) : Int)) ∧
∃ p3 : Option Addr, cell h5 b3 ((o2 + 6) + ((x1).toNat * 5)) = some (.pointer p3) ∧
Runs Tryz.prog 40 #[(.pointer p3)] h5 fun r4 h6 =>
∃ (s2 : Option Addr) (s2l s2c : Nat),
r4 = (.slice s2 s2l s2c) ∧
∃ (I2 : Int → Heap → Prop) (m2 : Int → Heap → Nat), I2 (0 : Int) h6 ∧ ∀ _ : Env,
∀ (x2 : Int) (h7 : Heap), I2 x2 h7 →
bcase (decide (x2 < ((s2l : Nat) : Int))) (
(0 ≤ x2 ∧ x2 < ((s2l : Nat) : Int)) ∧
onAddr s2 fun b4 o3 =>
∃ cs1 : List Value, row h7 b4 (o3 + ((x2).toNat * 8)) 8 = some cs1 ∧
∀ (b5 : Nat) (h8 : Heap), b5 = h7.size → h8 = h7.push (.cells ([(.int .i64 (0 : Int)), (.int .u32 (0 : Int)), (.int .i64 (0 : Int)), (.int .i64 (0 : Int)), (.slice none 0 0), (.int .i64 (0 : Int)), (.int .i64 (0 : Int)), (.int .i64 (0 : Int))] : List Value).toArray 127) →
(((cs1)).length = 8 ∧ wrs h8 b5 0 8 ∧ ∀ u ∈ ((cs1) : List Value), u.oneCell' = true) ∧ ∀ h9 : Heap, h9 = setr h8 b5 0 (cs1) →
∃ cs2 : List Value, row h9 b5 0 5 = some cs2 ∧
(cs2).length = 5 ∧
∀ (b6 : Nat) (h10 : Heap), b6 = h9.size → h10 = h9.push (.cells (((cs2) ++ [])).toArray 121) →
Runs Tryz.prog 38 #[(.pointer a), (.int .i64 (5 : Int)), (.slice (some ⟨b6, 0, none⟩) 1 1)] h10 fun r5 h11 =>
fits .i64 (x2 + (1 : Int)) ∧
I2 (x2 + (1 : Int)) h11 ∧ m2 (x2 + (1 : Int)) h11 < m2 x2 h7) (
fits .i64 (x1 + (1 : Int)) ∧
I1 (x1 + (1 : Int)) h7 ∧ m1 (x1 + (1 : Int)) h7 < m1 x1 h5)) (
onAddr a fun b7 o4 =>
∃ (s3 : Option Addr) (s3l s3c : Nat), cell h5 b7 (o4 + 346) = some (.slice s3 s3l s3c) ∧
Runs Tryz.prog 41 #[(.slice s3 s3l s3c), (.func (.func 42) #[] #[(.pointer (some ⟨b1, 0, none⟩))])] h5 fun r6 h12 =>
∃ (s4 : Option Addr) (s4l s4c : Nat),
r6 = (.slice s4 s4l s4c) ∧
onAddr a fun b8 o5 =>
wr h12 b8 (o5 + 346) ∧ ∀ h13 : Heap, h13 = setc h12 b8 (o5 + 346) (.slice s4 s4l s4c) →
onAddr a fun b9 o6 =>
∃ p4 : Option Addr, cell h13 b9 (o6 + 312) = some (.pointer p4) ∧
∃ n3 : Int, cell h13 b1 0 = some (.int .i64 n3) ∧
Runs Tryz.prog 43 #[(.pointer p4), (.int .i64 n3)] h13 fun r7 h14 =>
onAddr a fun b10 o7 =>
∃ cs3 : List Value, row h14 b10 (o7 + 313) 4 = some cs3 ∧
∃ (I3 : Int → Heap → Prop) (m3 : Int → Heap → Nat), I3 (0 : Int) h14 ∧ ∀ _ : Env,
∀ (x3 : Int) (h15 : Heap), I3 x3 h15 →
bcase (decide (x3 < (4 : Int))) (
(0 ≤ x3 ∧ x3 < ((4 : Nat) : Int)) ∧
∃ p5 : Option Addr, cs3[(x3).toNat]? = some (.pointer p5) ∧
∃ n4 : Int, cell h15 b1 0 = some (.int .i64 n4) ∧
Runs Tryz.prog 44 #[(.pointer p5), (.int .i64 n4)] h15 fun r8 h16 =>
∃ v2 : Value,
r8 = v2 ∧
fits .i64 (x3 + (1 : Int)) ∧
I3 (x3 + (1 : Int)) h16 ∧ m3 (x3 + (1 : Int)) h16 < m3 x3 h15) (
onAddr a fun b11 o8 =>
∃ n5 : Int, cell h15 b1 0 = some (.int .i64 n5) ∧
Runs Tryz.prog 45 #[(.pointer (some ⟨b11, (o8 + 150), none⟩)), (.int .i64 n5)] h15 fun r9 h17 =>
∃ n6 : Int, cell h17 b1 0 = some (.int .i64 n6) ∧
fits .i64 (n6 - (1 : Int)) ∧
onAddr a fun b12 o9 =>
(0 ≤ (n6 - (1 : Int)) ∧ (n6 - (1 : Int)) < ((16 : Nat) : Int)) ∧
wr h17 b12 ((o9 + 329) + ((n6 - (1 : Int))).toNat) ∧ ∀ h18 : Heap, h18 = setc h17 b12 ((o9 + 329) + ((n6 - (1 : Int))).toNat) (.pointer none) →
onAddr a fun b13 o10 =>
∃ n7 : Int, cell h18 b1 0 = some (.int .i64 n7) ∧
Runs Tryz.prog 46 #[(.pointer (some ⟨b13, (o10 + 22), none⟩)), (.int .i64 n7)] h18 fun r10 h19 =>
∃ v3 : Value,
r10 = v3 ∧
Post v3 h19)))) :
    Runs Tryz.prog 14 #[(.pointer a), (.int .i64 aid)] h0 Post :=
  runs_of (args := [(.pointer a), (.int .i64 aid)]) (fun n => ⟨true, false⟩) (fun n => match n with | 0 => [(25, .int .i64)] | 2 => [(37, .int .i64)] | 4 => [(67, .int .i64)] | _ => []) (fun _ => none) (fun _ => []) Tryz.func14 rfl (by rw [Tryz.ntmps14]; simp) (Eq.mp (by kernel_rfl) H)

theorem vc_ap_AP_Rate (a : Option Addr) (aid : Int) (r : List Value) (h0 : Heap) (Post : Value → Heap → Prop) (H :
∀ (b1 : Nat) (h1 : Heap), b1 = h0.size → h1 = h0.push (.cells (r).toArray 42) →
Runs Tryz.prog 35 #[(.pointer a), (.int .i64 aid)] h1 fun r1 h2 =>
∃ p1 : Option Addr,
r1 = (.pointer p1) ∧
bcase (isNilAddr p1) (
∃ v1 : Value, cell h2 2 0 = some v1 ∧
Post v1 h2) (
∃ cs1 : List Value, row h2 b1 0 5 = some cs1 ∧
Runs Tryz.prog 31 #[(.agg (cs1).toArray)] h2 fun r2 h3 =>
∃ t1 : Bool,
r2 = (.bool t1) ∧
bcase (!t1) (
∃ v2 : Value, cell h3 0 0 = some v2 ∧
Post v2 h3) (
∃ cs2 : List Value, row h3 b1 0 5 = some cs2 ∧
onAddr p1 fun b2 o1 =>
(((cs2)).length = 5 ∧ wrs h3 b2 o1 5 ∧ ∀ u ∈ ((cs2) : List Value), u.oneCell' = true) ∧ ∀ h4 : Heap, h4 = setr h3 b2 o1 (cs2) →
Post .nilIface h4))) :
    Runs Tryz.prog 15 #[(.pointer a), (.int .i64 aid), (.agg (r).toArray)] h0 Post :=
  runs_of (args := [(.pointer a), (.int .i64 aid), (.agg (r).toArray)]) (fun n => ⟨true, false⟩) (fun _ => []) (fun _ => none) (fun _ => []) Tryz.func15 rfl (by rw [Tryz.ntmps15]; simp) (Eq.mp (by kernel_rfl) H)

theorem vc_ap_AP_Weigh (a : Option Addr) (aid : Int) (weight : Int) (h0 : Heap) (Post : Value → Heap → Prop) (H :
Runs Tryz.prog 35 #[(.pointer a), (.int .i64 aid)] h0 fun r1 h1 =>
∃ p1 : Option Addr,
r1 = (.pointer p1) ∧
bcase (isNilAddr p1) (
∃ v1 : Value, cell h1 2 0 = some v1 ∧
Post v1 h1) (
bcase (decide (weight < (1 : Int))) (
∃ v2 : Value, cell h1 0 0 = some v2 ∧
Post v2 h1) (
bcase (decide ((100 : Int) < weight)) (
∃ v3 : Value, cell h1 0 0 = some v3 ∧
Post v3 h1) (
onAddr a fun b1 o1 =>
∃ cs1 : List Value, row h1 b1 (o1 + 313) 4 = some cs1 ∧
∃ (I1 : Int → Heap → Prop) (m1 : Int → Heap → Nat), I1 (0 : Int) h1 ∧ ∀ _ : Env,
∀ (x1 : Int) (h2 : Heap), I1 x1 h2 →
bcase (decide (x1 < (4 : Int))) (
(0 ≤ x1 ∧ x1 < ((4 : Nat) : Int)) ∧
∃ p2 : Option Addr, cs1[(x1).toNat]? = some (.pointer p2) ∧
Runs Tryz.prog 47 #[(.pointer p2), (.int .i64 aid), (.int .i64 weight)] h2 fun r2 h3 =>
∃ v4 : Value,
r2 = v4 ∧
fits .i64 (x1 + (1 : Int)) ∧
I1 (x1 + (1 : Int)) h3 ∧ m1 (x1 + (1 : Int)) h3 < m1 x1 h2) (
Post .nilIface h2))))) :
    Runs Tryz.prog 16 #[(.pointer a), (.int .i64 aid), (.int .i64 weight)] h0 Post :=
  runs_of (args := [(.pointer a), (.int .i64 aid), (.int .i64 weight)]) (fun n => ⟨true, false⟩) (fun n => match n with | 1 => [(27, .int .i64)] | _ => []) (fun _ => none) (fun _ => []) Tryz.func16 rfl (by rw [Tryz.ntmps16]; simp) (Eq.mp (by kernel_rfl) H)

theorem vc_ap_AP_Doze (a : Option Addr) (aid : Int) (on : Bool) (h0 : Heap) (Post : Value → Heap → Prop) (H :
Runs Tryz.prog 35 #[(.pointer a), (.int .i64 aid)] h0 fun r1 h1 =>
∃ p1 : Option Addr,
r1 = (.pointer p1) ∧
bcase (isNilAddr p1) (
∃ v1 : Value, cell h1 2 0 = some v1 ∧
Post v1 h1) (
onAddr a fun b1 o1 =>
Runs Tryz.prog 48 #[(.pointer (some ⟨b1, (o1 + 150), none⟩)), (.int .i64 aid), (.bool on)] h1 fun r2 h2 =>
∃ v2 : Value,
r2 = v2 ∧
Post v2 h2)) :
    Runs Tryz.prog 17 #[(.pointer a), (.int .i64 aid), (.bool on)] h0 Post :=
  runs_of (args := [(.pointer a), (.int .i64 aid), (.bool on)]) (fun n => ⟨true, false⟩) (fun _ => []) (fun _ => none) (fun _ => []) Tryz.func17 rfl (by rw [Tryz.ntmps17]; simp) (Eq.mp (by kernel_rfl) H)

theorem vc_ap_AP_Trigger (a : Option Addr) (aid : Int) (ac : Int) (h0 : Heap) (Post : Value → Heap → Prop) (H :
Runs Tryz.prog 35 #[(.pointer a), (.int .i64 aid)] h0 fun r1 h1 =>
∃ p1 : Option Addr,
r1 = (.pointer p1) ∧
bcase (isNilAddr p1) (
∃ v1 : Value, cell h1 2 0 = some v1 ∧
Post v1 h1) (
onAddr a fun b1 o1 =>
Runs Tryz.prog 49 #[(.pointer (some ⟨b1, (o1 + 150), none⟩)), (.int .i64 aid), (.int .i64 ac)] h1 fun r2 h2 =>
∃ v2 : Value,
r2 = v2 ∧
Post v2 h2)) :
    Runs Tryz.prog 18 #[(.pointer a), (.int .i64 aid), (.int .i64 ac)] h0 Post :=
  runs_of (args := [(.pointer a), (.int .i64 aid), (.int .i64 ac)]) (fun n => ⟨true, false⟩) (fun _ => []) (fun _ => none) (fun _ => []) Tryz.func18 rfl (by rw [Tryz.ntmps18]; simp) (Eq.mp (by kernel_rfl) H)

theorem vc_ap_AP_Stations (a : Option Addr) (h0 : Heap) (Post : Value → Heap → Prop) (H :
onAddr a fun b1 o1 =>
Runs Tryz.prog 50 #[(.pointer (some ⟨b1, (o1 + 22), none⟩))] h0 fun r1 h1 =>
∃ p1 : Option Addr,
r1 = (.pointer p1) ∧
Post (.pointer p1) h1) :
    Runs Tryz.prog 19 #[(.pointer a)] h0 Post :=
  runs_of (args := [(.pointer a)]) (fun n => ⟨true, false⟩) (fun _ => []) (fun _ => none) (fun _ => []) Tryz.func19 rfl (by rw [Tryz.ntmps19]; simp) (Eq.mp (by kernel_rfl) H)

theorem vc_sta_Table_Clone (t : Option Addr) (h0 : Heap) (Post : Value → Heap → Prop) (H :
onAddr t fun b1 o1 =>
∃ cs1 : List Value, row h0 b1 o1 128 = some cs1 ∧
∀ (b2 : Nat) (h1 : Heap), b2 = h0.size → h1 = h0.push (.cells ([(.bool false), (.int .u8 (0 : Int)), (.int .u8 (0 : Int)), (.int .u8 (0 : Int)), (.int .u8 (0 : Int)), (.int .u8 (0 : Int)), (.int .u8 (0 : Int)), (.int .i64 (0 : Int)), (.bool false), (.int .u8 (0 : Int)), (.int .u8 (0 : Int)), (.int .u8 (0 : Int)), (.int .u8 (0 : Int)), (.int .u8 (0 : Int)), (.int .u8 (0 : Int)), (.int .i64 (0 : Int)), (.bool false), (.int .u8 (0 : Int)), (.int .u8 (0 : Int)), (.int .u8 (0 : Int)), (.int .u8 (0 : Int)), (.int .u8 (0 : Int)), (.int .u8 (0 : Int)), (.int .i64 (0 : Int)), (.bool false), (.int .u8 (0 : Int)), (.int .u8 (0 : Int)), (.int .u8 (0 : Int)), (.int .u8 (0 : Int)), (.int .u8 (0 : Int)), (.int .u8 (0 : Int)), (.int .i64 (0 : Int)), (.bool false), (.int .u8 (0 : Int)), (.int .u8 (0 : Int)), (.int .u8 (0 : Int)), (.int .u8 (0 : Int)), (.int .u8 (0 : Int)), (.int .u8 (0 : Int)), (.int .i64 (0 : Int)), (.bool false), (.int .u8 (0 : Int)), (.int .u8 (0 : Int)), (.int .u8 (0 : Int)), (.int .u8 (0 : Int)), (.int .u8 (0 : Int)), (.int .u8 (0 : Int)), (.int .i64 (0 : Int)), (.bool false), (.int .u8 (0 : Int)), (.int .u8 (0 : Int)), (.int .u8 (0 : Int)), (.int .u8 (0 : Int)), (.int .u8 (0 : Int)), (.int .u8 (0 : Int)), (.int .i64 (0 : Int)), (.bool false), (.int .u8 (0 : Int)), (.int .u8 (0 : Int)), (.int .u8 (0 : Int)), (.int .u8 (0 : Int)), (.int .u8 (0 : Int)), (.int .u8 (0 : Int)), (.int .i64 (0 : Int)), (.bool false), (.int .u8 (0 : Int)), (.int .u8 (0 : Int)), (.int .u8 (0 : Int)), (.int .u8 (0 : Int)), (.int .u8 (0 : Int)), (.int .u8 (0 : Int)), (.int .i64 (0 : Int)), (.bool false), (.int .u8 (0 : Int)), (.int .u8 (0 : Int)), (.int .u8 (0 : Int)), (.int .u8 (0 : Int)), (.int .u8 (0 : Int)), (.int .u8 (0 : Int)), (.int .i64 (0 : Int)), (.bool false), (.int .u8 (0 : Int)), (.int .u8 (0 : Int)), (.int .u8 (0 : Int)), (.int .u8 (0 : Int)), (.int .u8 (0 : Int)), (.int .u8 (0 : Int)), (.int .i64 (0 : Int)), (.bool false), (.int .u8 (0 : Int)), (.int .u8 (0 : Int)), (.int .u8 (0 : Int)), (.int .u8 (0 : Int)), (.int .u8 (0 : Int)), (.int .u8 (0 : Int)), (.int .i64 (0 : Int)), (.bool false), (.int .u8 (0 : Int)), (.int .u8 (0 : Int)), (.int .u8 (0 : Int)), (.int .u8 (0 : Int)), (.int .u8 (0 : Int)), (.int .u8 (0 : Int)), (.int .i64 (0 : Int)), (.bool false), (.int .u8 (0 : Int)), (.int .u8 (0 : Int)), (.int .u8 (0 : Int)), (.int .u8 (0 : Int)), (.int .u8 (0 : Int)), (.int .u8 (0 : Int)), (.int .i64 (0 : Int)), (.bool false), (.int .u8 (0 : Int)), (.int .u8 (0 : Int)), (.int .u8 (0 : Int)), (.int .u8 (0 : Int)), (.int .u8 (0 : Int)), (.int .u8 (0 : Int)), (.int .i64 (0 : Int)), (.bool false), (.int .u8 (0 : Int)), (.int .u8 (0 : Int)), (.int .u8 (0 : Int)), (.int .u8 (0 : Int)), (.int .u8 (0 : Int)), (.int .u8 (0 : Int)), (.int .i64 (0 : Int))] : List Value).toArray 81) →
(((cs1)).length = 128 ∧ wrs h1 b2 0 128 ∧ ∀ u ∈ ((cs1) : List Value), u.oneCell' = true) ∧ ∀ h2 : Heap, h2 = setr h1 b2 0 (cs1) →
Post (.pointer (some ⟨b2, 0, none⟩)) h2) :
    Runs Tryz.prog 50 #[(.pointer t)] h0 Post :=
  runs_of (args := [(.pointer t)]) (fun n => ⟨true, false⟩) (fun _ => []) (fun _ => none) (fun _ => []) Tryz.func50 rfl (by rw [Tryz.ntmps50]; simp) (Eq.mp (by kernel_rfl) H)

theorem vc_sta_Table_of (t : Option Addr) (aid : Int) (h0 : Heap) (Post : Value → Heap → Prop) (H :
bcase (decide (aid < (1 : Int))) (
Post (.pointer none) h0) (
bcase (decide ((16 : Int) < aid)) (
Post (.pointer none) h0) (
fits .i64 (aid - (1 : Int)) ∧
onAddr t fun b1 o1 =>
(0 ≤ (aid - (1 : Int)) ∧ (aid - (1 : Int)) < ((16 : Nat) : Int)) ∧
∃ t1 : Bool, cell h0 b1 (o1 + (((aid - (1 : Int))).toNat * 8)) = some (.bool t1) ∧
bcase (!t1) (
Post (.pointer none) h0) (
fits .i64 (aid - (1 : Int)) ∧
onAddr t fun b2 o2 =>
(0 ≤ (aid - (1 : Int)) ∧ (aid - (1 : Int)) < ((16 : Nat) : Int)) ∧
Post (.pointer (some ⟨b2, (o2 + (((aid - (1 : Int))).toNat * 8)), none⟩)) h0)))) :
    Runs Tryz.prog 85 #[(.pointer t), (.int .i64 aid)] h0 Post :=
  runs_of (args := [(.pointer t), (.int .i64 aid)]) (fun n => ⟨true, false⟩) (fun _ => []) (fun _ => none) (fun _ => []) Tryz.func85 rfl (by rw [Tryz.ntmps85]; simp) (Eq.mp (by kernel_rfl) H)

theorem vc_sta_Table_Del (t : Option Addr) (aid : Int) (h0 : Heap) (Post : Value → Heap → Prop) (H :
Runs Tryz.prog 85 #[(.pointer t), (.int .i64 aid)] h0 fun r1 h1 =>
∃ p1 : Option Addr,
r1 = (.pointer p1) ∧
bcase (isNilAddr p1) (
∃ v1 : Value, cell h1 2 0 = some v1 ∧
Post v1 h1) (
onAddr p1 fun b1 o1 =>
wr h1 b1 o1 ∧ ∀ h2 : Heap, h2 = setc h1 b1 o1 (.bool false) →
onAddr p1 fun b2 o2 =>
((([(.int .u8 (0 : Int)), (.int .u8 (0 : Int)), (.int .u8 (0 : Int)), (.int .u8 (0 : Int)), (.int .u8 (0 : Int)), (.int .u8 (0 : Int))] : List Value)).length = 6 ∧ wrs h2 b2 (o2 + 1) 6 ∧ ∀ u ∈ (([(.int .u8 (0 : Int)), (.int .u8 (0 : Int)), (.int .u8 (0 : Int)), (.int .u8 (0 : Int)), (.int .u8 (0 : Int)), (.int .u8 (0 : Int))] : List Value) : List Value), u.oneCell' = true) ∧ ∀ h3 : Heap, h3 = setr h2 b2 (o2 + 1) ([(.int .u8 (0 : Int)), (.int .u8 (0 : Int)), (.int .u8 (0 : Int)), (.int .u8 (0 : Int)), (.int .u8 (0 : Int)), (.int .u8 (0 : Int))] : List Value) →
Post .nilIface h3)) :
    Runs Tryz.prog 46 #[(.pointer t), (.int .i64 aid)] h0 Post :=
  runs_of (args := [(.pointer t), (.int .i64 aid)]) (fun n => ⟨true, false⟩) (fun _ => []) (fun _ => none) (fun _ => []) Tryz.func46 rfl (by rw [Tryz.ntmps46]; simp) (Eq.mp (by kernel_rfl) H)

theorem vc_ap_AP_drop (a : Option Addr) (reason : Int) (l : Option Addr) (lL lC : Nat) (h0 : Heap) (Post : Value → Heap → Prop) (H :
∃ (I1 : Int → Heap → Prop) (m1 : Int → Heap → Nat), I1 (0 : Int) h0 ∧ ∀ _ : Env,
∀ (x1 : Int) (h1 : Heap), I1 x1 h1 →
bcase (decide (x1 < ((lL : Nat) : Int))) (
(0 ≤ x1 ∧ x1 < ((lL : Nat) : Int)) ∧
onAddr l fun b1 o1 =>
∃ cs1 : List Value, row h1 b1 (o1 + ((x1).toNat * 5)) 5 = some cs1 ∧
∀ (b2 : Nat) (h2 : Heap), b2 = h1.size → h2 = h1.push (.cells ([(.int .i64 (0 : Int)), (.int .u32 (0 : Int)), (.int .i64 (0 : Int)), (.int .i64 (0 : Int)), (.slice none 0 0)] : List Value).toArray 121) →
(((cs1)).length = 5 ∧ wrs h2 b2 0 5 ∧ ∀ u ∈ ((cs1) : List Value), u.oneCell' = true) ∧ ∀ h3 : Heap, h3 = setr h2 b2 0 (cs1) →
onAddr a fun b3 o2 =>
∃ n1 : Int, cell h3 b2 0 = some (.int .i64 n1) ∧
Runs Tryz.prog 78 #[(.pointer (some ⟨b3, (o2 + 310), none⟩)), (.int .i64 n1), (.int .i64 reason)] h3 fun r1 h4 =>
∃ v1 : Value,
r1 = v1 ∧
fits .i64 (x1 + (1 : Int)) ∧
I1 (x1 + (1 : Int)) h4 ∧ m1 (x1 + (1 : Int)) h4 < m1 x1 h1) (
Post (.tuple #[]) h1)) :
    Runs Tryz.prog 38 #[(.pointer a), (.int .i64 reason), (.slice l lL lC)] h0 Post :=
  runs_of (args := [(.pointer a), (.int .i64 reason), (.slice l lL lC)]) (fun n => ⟨true, false⟩) (fun n => match n with | 0 => [(10, .int .i64)] | _ => []) (fun _ => none) (fun _ => []) Tryz.func38 rfl (by rw [Tryz.ntmps38]; simp) (Eq.mp (by kernel_rfl) H)

theorem vc_pool_Pool_Drop (p : Option Addr) (aid : Int) (h0 : Heap) (Post : Value → Heap → Prop) (H :
Runs Tryz.prog 73 #[(.int .i64 aid), (.int .i64 (0 : Int))] h0 fun r1 h1 =>
∃ t1 : Bool,
r1 = (.bool t1) ∧
bcase (!t1) (
Post (.slice none 0 0) h1) (
fits .i64 (aid - (1 : Int)) ∧
onAddr p fun b1 o1 =>
(0 ≤ (aid - (1 : Int)) ∧ (aid - (1 : Int)) < ((16 : Nat) : Int)) ∧
∃ cs1 : List Value, row h1 b1 ((o1 + 5) + (((aid - (1 : Int))).toNat * 8)) 8 = some cs1 ∧
∃ (I1 : Option Addr → Nat → Nat → Int → Heap → Prop) (m1 : Option Addr → Nat → Nat → Int → Heap → Nat), I1 none 0 0 (0 : Int) h1 ∧ ∀ _ : Env,
∀ (out_1 : Option Addr) (out_1l out_1c : Nat) (x2 : Int) (h2 : Heap), I1 out_1 out_1l out_1c x2 h2 →
bcase (decide (x2 < (8 : Int))) (
(0 ≤ x2 ∧ x2 < ((8 : Nat) : Int)) ∧
∃ p1 : Option Addr, cs1[(x2).toNat]? = some (.pointer p1) ∧
Runs Tryz.prog 79 #[(.pointer p1)] h2 fun r2 h3 =>
∃ (s1 : Option Addr) (s1l s1c : Nat),
r2 = (.slice s1 s1l s1c) ∧
∃ news1 : List Value, (src h3 s1 (s1l * 5) news1 ∧ ∀ u ∈ news1, u.oneCell' = true) ∧
appK h3 out_1 out_1l out_1c s1l 5 121 56 news1 fun (a1 : Option Addr) (cap1 : Nat) (h4 : Heap) =>
fits .i64 (x2 + (1 : Int)) ∧
I1 a1 (out_1l + s1l) cap1 (x2 + (1 : Int)) h4 ∧ m1 a1 (out_1l + s1l) cap1 (x2 + (1 : Int)) h4 < m1 out_1 out_1l out_1c x2 h2) (
fits .i64 (aid - (1 : Int)) ∧
Runs Tryz.prog 59 #[(.pointer p), (.int .i64 (aid - (1 : Int)))] h2 fun r3 h5 =>
Post (.slice out_1 out_1l out_1c) h5))) :
    Runs Tryz.prog 39 #[(.pointer p), (.int .i64 aid)] h0 Post :=
  runs_of (args := [(.pointer p), (.int .i64 aid)]) (fun n => ⟨true, false⟩) (fun n => match n with | 0 => [(5, .slice), (18, .int .i64)] | _ => []) (fun _ => none) (fun _ => []) Tryz.func39 rfl (by rw [Tryz.ntmps39]; simp) (Eq.mp (by kernel_rfl) H)

theorem vc_pool_there (aid : Int) (tid : Int) (h0 : Heap) (Post : Value → Heap → Prop) (H :
bcase (decide ((1 : Int) ≤ aid)) (
bcase (decide (aid ≤ (16 : Int))) (
bcase (decide ((0 : Int) ≤ tid)) (
Post (.bool (decide (tid < (8 : Int)))) h0) (
Post (.bool false) h0)) (
Post (.bool false) h0)) (
Post (.bool false) h0)) :
    Runs Tryz.prog 73 #[(.int .i64 aid), (.int .i64 tid)] h0 Post :=
  runs_of (args := [(.int .i64 aid), (.int .i64 tid)]) (fun n => ⟨true, false⟩) (fun _ => []) (fun _ => none) (fun _ => []) Tryz.func73 rfl (by rw [Tryz.ntmps73]; simp) (Eq.mp (by kernel_rfl) H)

theorem vc_fq_Queue_All (q : Option Addr) (h0 : Heap) (Post : Value → Heap → Prop) (H :
∃ (I1 : Option Addr → Nat → Nat → Int → Heap → Prop) (m1 : Option Addr → Nat → Nat → Int → Heap → Nat), I1 none 0 0 (0 : Int) h0 ∧ ∀ _ : Env,
∀ (out_1 : Option Addr) (out_1l out_1c : Nat) (x2 : Int) (h1 : Heap), I1 out_1 out_1l out_1c x2 h1 →
bcase (decide (x2 < (16 : Int))) (
onAddr q fun b1 o1 =>
(0 ≤ x2 ∧ x2 < ((16 : Nat) : Int)) ∧
∃ (s1 : Option Addr) (s1l s1c : Nat), cell h1 b1 ((o1 + 3) + ((x2).toNat * 8)) = some (.slice s1 s1l s1c) ∧
∃ (I2 : Option Addr → Nat → Nat → Int → Heap → Prop) (m2 : Option Addr → Nat → Nat → Int → Heap → Nat), I2 out_1 out_1l out_1c (0 : Int) h1 ∧ ∀ _ : Env,
∀ (out_2 : Option Addr) (out_2l out_2c : Nat) (x4 : Int) (h2 : Heap), I2 out_2 out_2l out_2c x4 h2 →
bcase (decide (x4 < ((s1l : Nat) : Int))) (
(0 ≤ x4 ∧ x4 < ((s1l : Nat) : Int)) ∧
onAddr s1 fun b2 o2 =>
∃ cs1 : List Value, row h2 b2 (o2 + ((x4).toNat * 5)) 5 = some cs1 ∧
∀ (b3 : Nat) (h3 : Heap), b3 = h2.size → h3 = h2.push (.cells ([(.int .i64 (0 : Int)), (.int .u32 (0 : Int)), (.int .i64 (0 : Int)), (.int .i64 (0 : Int)), (.slice none 0 0)] : List Value).toArray 121) →
(((cs1)).length = 5 ∧ wrs h3 b3 0 5 ∧ ∀ u ∈ ((cs1) : List Value), u.oneCell' = true) ∧ ∀ h4 : Heap, h4 = setr h3 b3 0 (cs1) →
∃ cs2 : List Value, row h4 b3 0 5 = some cs2 ∧
Runs Tryz.prog 134 #[(.agg (cs2).toArray)] h4 fun r1 h5 =>
∃ cs3 : List Value,
r1 = (.agg (cs3).toArray) ∧
(cs3).length = 5 ∧
∀ (b4 : Nat) (h6 : Heap), b4 = h5.size → h6 = h5.push (.cells (((cs3) ++ [])).toArray 121) →
∃ news1 : List Value, (row h6 b4 0 5 = some news1 ∧ ∀ u ∈ news1, u.oneCell' = true) ∧
appK h6 out_2 out_2l out_2c 1 5 121 56 news1 fun (a1 : Option Addr) (cap1 : Nat) (h7 : Heap) =>
fits .i64 (x4 + (1 : Int)) ∧
I2 a1 (out_2l + 1) cap1 (x4 + (1 : Int)) h7 ∧ m2 a1 (out_2l + 1) cap1 (x4 + (1 : Int)) h7 < m2 out_2 out_2l out_2c x4 h2) (
fits .i64 (x2 + (1 : Int)) ∧
I1 out_2 out_2l out_2c (x2 + (1 : Int)) h2 ∧ m1 out_2 out_2l out_2c (x2 + (1 : Int)) h2 < m1 out_1 out_1l out_1c x2 h1)) (
Post (.slice out_1 out_1l out_1c) h1)) :
    Runs Tryz.prog 79 #[(.pointer q)] h0 Post :=
  runs_of (args := [(.pointer q)]) (fun n => ⟨true, false⟩) (fun n => match n with | 0 => [(3, .slice), (7, .int .i64)] | 2 => [(3, .slice), (18, .int .i64)] | _ => []) (fun _ => none) (fun _ => []) Tryz.func79 rfl (by rw [Tryz.ntmps79]; simp) (Eq.mp (by kernel_rfl) H)

theorem vc_ba_Session_Out (s : Option Addr) (h0 : Heap) (Post : Value → Heap → Prop) (H :
Runs Tryz.prog 80 #[(.pointer s), (.func (.func 81) #[] #[])] h0 fun r1 h1 =>
∃ (s1 : Option Addr) (s1l s1c : Nat),
r1 = (.slice s1 s1l s1c) ∧
Post (.slice s1 s1l s1c) h1) :
    Runs Tryz.prog 40 #[(.pointer s)] h0 Post :=
  runs_of (args := [(.pointer s)]) (fun n => ⟨true, false⟩) (fun _ => []) (fun _ => none) (fun _ => []) Tryz.func40 rfl (by rw [Tryz.ntmps40]; simp) (Eq.mp (by kernel_rfl) H)

theorem vc_ba_Session_list (s : Option Addr) (f : Value) (h0 : Heap) (Post : Value → Heap → Prop) (H :
onAddr s fun b1 o1 =>
∃ (s1 : Option Addr) (s1l s1c : Nat), cell h0 b1 (o1 + 6) = some (.slice s1 s1l s1c) ∧
∃ (I1 : Option Addr → Nat → Nat → Int → Heap → Prop) (m1 : Option Addr → Nat → Nat → Int → Heap → Nat), I1 none 0 0 (0 : Int) h0 ∧ ∀ _ : Env,
∀ (out_1 : Option Addr) (out_1l out_1c : Nat) (x2 : Int) (h1 : Heap), I1 out_1 out_1l out_1c x2 h1 →
bcase (decide (x2 < ((s1l : Nat) : Int))) (
(0 ≤ x2 ∧ x2 < ((s1l : Nat) : Int)) ∧
onAddr s1 fun b2 o2 =>
∃ cs1 : List Value, row h1 b2 (o2 + ((x2).toNat * 9)) 9 = some cs1 ∧
∀ (b3 : Nat) (h2 : Heap), b3 = h1.size → h2 = h1.push (.cells ([(.int .i64 (0 : Int)), (.int .u32 (0 : Int)), (.int .i64 (0 : Int)), (.int .i64 (0 : Int)), (.slice none 0 0), (.int .i64 (0 : Int)), (.int .i64 (0 : Int)), (.int .i64 (0 : Int)), (.bool false)] : List Value).toArray 191) →
(((cs1)).length = 9 ∧ wrs h2 b3 0 9 ∧ ∀ u ∈ ((cs1) : List Value), u.oneCell' = true) ∧ ∀ h3 : Heap, h3 = setr h2 b3 0 (cs1) →
∃ cs2 : List Value, row h3 b3 0 9 = some cs2 ∧
callv Tryz.prog f [(.agg (cs2).toArray)] h3 fun r1 h4 =>
∃ t1 : Bool,
r1 = (.bool t1) ∧
bcase t1 (
∃ cs3 : List Value, row h4 b3 0 8 = some cs3 ∧
Runs Tryz.prog 135 #[(.agg (cs3).toArray)] h4 fun r2 h5 =>
∃ cs4 : List Value,
r2 = (.agg (cs4).toArray) ∧
(cs4).length = 8 ∧
∀ (b4 : Nat) (h6 : Heap), b4 = h5.size → h6 = h5.push (.cells (((cs4) ++ [])).toArray 127) →
∃ news1 : List Value, (row h6 b4 0 8 = some news1 ∧ ∀ u ∈ news1, u.oneCell' = true) ∧
appK h6 out_1 out_1l out_1c 1 8 127 80 news1 fun (a1 : Option Addr) (cap1 : Nat) (h7 : Heap) =>
fits .i64 (x2 + (1 : Int)) ∧
I1 a1 (out_1l + 1) cap1 (x2 + (1 : Int)) h7 ∧ m1 a1 (out_1l + 1) cap1 (x2 + (1 : Int)) h7 < m1 out_1 out_1l out_1c x2 h1) (
fits .i64 (x2 + (1 : Int)) ∧
I1 out_1 out_1l out_1c (x2 + (1 : Int)) h4 ∧ m1 out_1 out_1l out_1c (x2 + (1 : Int)) h4 < m1 out_1 out_1l out_1c x2 h1)) (
Post (.slice out_1 out_1l out_1c) h1)) :
    Runs Tryz.prog 80 #[(.pointer s), f] h0 Post :=
  runs_of (args := [(.pointer s), f]) (fun n => ⟨true, false⟩) (fun n => match n with | 0 => [(5, .slice), (13, .int .i64)] | _ => []) (fun _ => none) (fun _ => []) Tryz.func80 rfl (by rw [Tryz.ntmps80]; simp) (Eq.mp (by kernel_rfl) H)

theorem vc_slices_DeleteFunc_under (s : Option Addr) (sL sC : Nat) (del : Value) (h0 : Heap) (Post : Value → Heap → Prop) (H :
Runs Tryz.prog 82 #[(.slice s sL sC), del] h0 fun r1 h1 =>
∃ n1 : Int,
r1 = (.int .i64 n1) ∧
bcase (decide (n1 = (-1 : Int))) (
Post (.slice s sL sC) h1) (
fits .i64 (n1 + (1 : Int)) ∧
∃ (I1 : Int → Int → Heap → Prop) (m1 : Int → Int → Heap → Nat), I1 n1 (n1 + (1 : Int)) h1 ∧ ∀ _ : Env,
∀ (i_1 : Int) (j_1 : Int) (h2 : Heap), I1 i_1 j_1 h2 →
bcase (decide (j_1 < ((sL : Nat) : Int))) (
(0 ≤ j_1 ∧ j_1 < ((sL : Nat) : Int)) ∧
onAddr s fun b1 o1 =>
∃ p1 : Option Addr, cell h2 b1 (o1 + (j_1).toNat) = some (.pointer p1) ∧
callv Tryz.prog del [(.pointer p1)] h2 fun r2 h3 =>
∃ t1 : Bool,
r2 = (.bool t1) ∧
bcase (!t1) (
(0 ≤ i_1 ∧ i_1 < ((sL : Nat) : Int)) ∧
onAddr s fun b2 o2 =>
wr h3 b2 (o2 + (i_1).toNat) ∧ ∀ h4 : Heap, h4 = setc h3 b2 (o2 + (i_1).toNat) (.pointer p1) →
fits .i64 (i_1 + (1 : Int)) ∧
fits .i64 (j_1 + (1 : Int)) ∧
I1 (i_1 + (1 : Int)) (j_1 + (1 : Int)) h4 ∧ m1 (i_1 + (1 : Int)) (j_1 + (1 : Int)) h4 < m1 i_1 j_1 h2) (
fits .i64 (j_1 + (1 : Int)) ∧
I1 i_1 (j_1 + (1 : Int)) h3 ∧ m1 i_1 (j_1 + (1 : Int)) h3 < m1 i_1 j_1 h2)) (
(0 ≤ i_1 ∧ i_1 ≤ ((sL : Nat) : Int)) ∧
False))) :
    Runs Tryz.prog 41 #[(.slice s sL sC), del] h0 Post :=
  runs_of (args := [(.slice s sL sC), del]) (fun n => ⟨true, false⟩) (fun n => match n with | 0 => [(5, .int .i64), (6, .int .i64)] | _ => []) (fun _ => none) (fun _ => []) Tryz.func41 rfl (by rw [Tryz.ntmps41]; simp) (Eq.mp (by kernel_rfl) H)

theorem vc_slices_IndexFunc_under (s : Option Addr) (sL sC : Nat) (f : Value) (h0 : Heap) (Post : Value → Heap → Prop) (H :
∃ (I1 : Int → Heap → Prop) (m1 : Int → Heap → Nat), I1 (0 : Int) h0 ∧ ∀ _ : Env,
∀ (x1 : Int) (h1 : Heap), I1 x1 h1 →
bcase (decide (x1 < ((sL : Nat) : Int))) (
(0 ≤ x1 ∧ x1 < ((sL : Nat) : Int)) ∧
onAddr s fun b1 o1 =>
∃ p1 : Option Addr, cell h1 b1 (o1 + (x1).toNat) = some (.pointer p1) ∧
callv Tryz.prog f [(.pointer p1)] h1 fun r1 h2 =>
∃ t1 : Bool,
r1 = (.bool t1) ∧
bcase t1 (
Post (.int .i64 x1) h2) (
fits .i64 (x1 + (1 : Int)) ∧
I1 (x1 + (1 : Int)) h2 ∧ m1 (x1 + (1 : Int)) h2 < m1 x1 h1)) (
Post (.int .i64 (-1 : Int)) h1)) :
    Runs Tryz.prog 82 #[(.slice s sL sC), f] h0 Post :=
  runs_of (args := [(.slice s sL sC), f]) (fun n => ⟨true, false⟩) (fun n => match n with | 0 => [(8, .int .i64)] | _ => []) (fun _ => none) (fun _ => []) Tryz.func82 rfl (by rw [Tryz.ntmps82]; simp) (Eq.mp (by kernel_rfl) H)

theorem vc_aql_Limit_Clear (l : Option Addr) (aid : Int) (h0 : Heap) (Post : Value → Heap → Prop) (H :
Runs Tryz.prog 83 #[(.int .i64 aid)] h0 fun r1 h1 =>
∃ t1 : Bool,
r1 = (.bool t1) ∧
bcase t1 (
fits .i64 (aid - (1 : Int)) ∧
onAddr l fun b1 o1 =>
(0 ≤ (aid - (1 : Int)) ∧ (aid - (1 : Int)) < ((16 : Nat) : Int)) ∧
wr h1 b1 ((o1 + 2) + ((aid - (1 : Int))).toNat) ∧ ∀ h2 : Heap, h2 = setc h1 b1 ((o1 + 2) + ((aid - (1 : Int))).toNat) (.int .i64 (0 : Int)) →
Post (.tuple #[]) h2) (
Post (.tuple #[]) h1)) :
    Runs Tryz.prog 43 #[(.pointer l), (.int .i64 aid)] h0 Post :=
  runs_of (args := [(.pointer l), (.int .i64 aid)]) (fun n => ⟨true, false⟩) (fun _ => []) (fun _ => none) (fun _ => []) Tryz.func43 rfl (by rw [Tryz.ntmps43]; simp) (Eq.mp (by kernel_rfl) H)

theorem vc_aql_there (aid : Int) (h0 : Heap) (Post : Value → Heap → Prop) (H :
bcase (decide ((1 : Int) ≤ aid)) (
Post (.bool (decide (aid ≤ (16 : Int)))) h0) (
Post (.bool false) h0)) :
    Runs Tryz.prog 83 #[(.int .i64 aid)] h0 Post :=
  runs_of (args := [(.int .i64 aid)]) (fun n => ⟨true, false⟩) (fun _ => []) (fun _ => none) (fun _ => []) Tryz.func83 rfl (by rw [Tryz.ntmps83]; simp) (Eq.mp (by kernel_rfl) H)

theorem vc_sched_Sched_Del (s : Option Addr) (aid : Int) (h0 : Heap) (Post : Value → Heap → Prop) (H :
Runs Tryz.prog 71 #[(.pointer s), (.int .i64 aid)] h0 fun r1 h1 =>
∃ p1 : Option Addr,
r1 = (.pointer p1) ∧
bcase (isNilAddr p1) (
∃ v1 : Value, cell h1 2 0 = some v1 ∧
Post v1 h1) (
onAddr p1 fun b1 o1 =>
∃ t1 : Bool, cell h1 b1 (o1 + 3) = some (.bool t1) ∧
bcase t1 (
onAddr s fun b2 o2 =>
∃ p2 : Option Addr, cell h1 b2 (o2 + 16) = some (.pointer p2) ∧
onAddr p1 fun b3 o3 =>
∃ n1 : Int, cell h1 b3 (o3 + 4) = some (.int .i64 n1) ∧
Runs Tryz.prog 84 #[(.iface 160 (.pointer p2)), (.int .i64 n1)] h1 fun r2 h2 =>
∃ v2 : Value,
r2 = v2 ∧
cell h2 b2 (o2 + 16) = some (.pointer p2) ∧
fits .i64 (aid - (1 : Int)) ∧
onAddr s fun b4 o4 =>
(0 ≤ (aid - (1 : Int)) ∧ (aid - (1 : Int)) < ((16 : Nat) : Int)) ∧
wr h2 b4 (o4 + ((aid - (1 : Int))).toNat) ∧ ∀ h3 : Heap, h3 = setc h2 b4 (o4 + ((aid - (1 : Int))).toNat) (.pointer none) →
Post .nilIface h3) (
fits .i64 (aid - (1 : Int)) ∧
onAddr s fun b5 o5 =>
(0 ≤ (aid - (1 : Int)) ∧ (aid - (1 : Int)) < ((16 : Nat) : Int)) ∧
wr h1 b5 (o5 + ((aid - (1 : Int))).toNat) ∧ ∀ h4 : Heap, h4 = setc h1 b5 (o5 + ((aid - (1 : Int))).toNat) (.pointer none) →
Post .nilIface h4))) :
    Runs Tryz.prog 44 #[(.pointer s), (.int .i64 aid)] h0 Post :=
  runs_of (args := [(.pointer s), (.int .i64 aid)]) (fun n => ⟨true, false⟩) (fun _ => []) (fun _ => none) (fun _ => []) Tryz.func44 rfl (by rw [Tryz.ntmps44]; simp) (Eq.mp (by kernel_rfl) H)

theorem vc_ps_Power_Del (p : Option Addr) (aid : Int) (h0 : Heap) (Post : Value → Heap → Prop) (H :
Runs Tryz.prog 72 #[(.pointer p), (.int .i64 aid)] h0 fun r1 h1 =>
∃ p1 : Option Addr,
r1 = (.pointer p1) ∧
bcase (!(isNilAddr p1)) (
onAddr p1 fun b1 o1 =>
((([(.bool false), (.bool false), (.bool false), (.bool false), (.bool false), (.bool false), (.bool false), (.bool false), (.int .i64 (0 : Int)), (.int .i64 (0 : Int))] : List Value)).length = 10 ∧ wrs h1 b1 o1 10 ∧ ∀ u ∈ (([(.bool false), (.bool false), (.bool false), (.bool false), (.bool false), (.bool false), (.bool false), (.bool false), (.int .i64 (0 : Int)), (.int .i64 (0 : Int))] : List Value) : List Value), u.oneCell' = true) ∧ ∀ h2 : Heap, h2 = setr h1 b1 o1 ([(.bool false), (.bool false), (.bool false), (.bool false), (.bool false), (.bool false), (.bool false), (.bool false), (.int .i64 (0 : Int)), (.int .i64 (0 : Int))] : List Value) →
Post (.tuple #[]) h2) (
Post (.tuple #[]) h1)) :
    Runs Tryz.prog 45 #[(.pointer p), (.int .i64 aid)] h0 Post :=
  runs_of (args := [(.pointer p), (.int .i64 aid)]) (fun n => ⟨true, false⟩) (fun _ => []) (fun _ => none) (fun _ => []) Tryz.func45 rfl (by rw [Tryz.ntmps45]; simp) (Eq.mp (by kernel_rfl) H)
end Go.Proofs.YtgjbgcgjcamlgaaGreatDoor
