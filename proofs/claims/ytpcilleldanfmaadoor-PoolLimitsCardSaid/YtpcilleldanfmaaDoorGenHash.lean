/- The conditions for calls of functions of the program, in plain form: written by a program (vcgen) off the elaborated code; each is the reckoner's own, by the kernel. -/
import Derived.Test.YtpcilleldanfmaaDoorRows
import Derived.Test.YtpcilleldanfmaaDoorVc
set_option linter.unusedVariables false
set_option maxRecDepth 100000
namespace Go.Proofs.YtpcilleldanfmaaDoor
open Go.Vc
theorem vc_hash_Bucket (flow : Int) (seed : Int) (h0 : Heap) (Post : Value → Heap → Prop) (H :
Runs Tryd.prog 74 #[(.int .u32 flow), (.int .u32 seed)] h0 fun r1 h1 =>
∃ n1 : Int,
r1 = (.int .u32 n1) ∧
(0 ≤ n1 ∧ 0 < (16 : Int)) ∧
fits .i64 (n1 % (16 : Int)) ∧
Post (.int .i64 (n1 % (16 : Int))) h1) :
    Runs Tryd.prog 54 #[(.int .u32 flow), (.int .u32 seed)] h0 Post :=
  runs_of (args := [(.int .u32 flow), (.int .u32 seed)]) (fun n => ⟨true, false⟩) (fun _ => []) (fun _ => none) (fun _ => []) Tryd.func54 rfl (by rw [Tryd.ntmps54]; simp) (Eq.mp (by kernel_rfl) H)

theorem vc_hash_Mix (flow : Int) (seed : Int) (h0 : Heap) (Post : Value → Heap → Prop) (H :
(0 ≤ (16 : Int) ∧ (16 : Int) ≤ kbits .u32) ∧
(0 ≤ (16 : Int) ∧ (16 : Int) ≤ kbits .u32) ∧
(0 ≤ (16 : Int) ∧ (16 : Int) ≤ kbits .u32) ∧
Post (.int .u32 (bits .xor .u32 (IntKind.u32.wrap ((bits .xor .u32 (IntKind.u32.wrap ((bits .xor .u32 (bits .xor .u32 flow seed) ((bits .xor .u32 flow seed) / (65536 : Int))) * (73244475 : Int))) ((IntKind.u32.wrap ((bits .xor .u32 (bits .xor .u32 flow seed) ((bits .xor .u32 flow seed) / (65536 : Int))) * (73244475 : Int))) / (65536 : Int))) * (73244475 : Int))) ((IntKind.u32.wrap ((bits .xor .u32 (IntKind.u32.wrap ((bits .xor .u32 (bits .xor .u32 flow seed) ((bits .xor .u32 flow seed) / (65536 : Int))) * (73244475 : Int))) ((IntKind.u32.wrap ((bits .xor .u32 (bits .xor .u32 flow seed) ((bits .xor .u32 flow seed) / (65536 : Int))) * (73244475 : Int))) / (65536 : Int))) * (73244475 : Int))) / (65536 : Int)))) h0) :
    Runs Tryd.prog 74 #[(.int .u32 flow), (.int .u32 seed)] h0 Post :=
  runs_of (args := [(.int .u32 flow), (.int .u32 seed)]) (fun n => ⟨false, false⟩) (fun _ => []) (fun _ => none) (fun _ => []) Tryd.func74 rfl (by rw [Tryd.ntmps74]; simp) (Eq.mp (by kernel_rfl) H)

theorem vc_muezzinref8_Bucket (flow : Int) (seed : Int) (h0 : Heap) (Post : Value → Heap → Prop) (H :
Runs Tryd.prog 32 #[(.int .u32 flow), (.int .u32 seed)] h0 fun r1 h1 =>
∃ n1 : Int,
r1 = (.int .u32 n1) ∧
(0 ≤ n1 ∧ 0 < (16 : Int)) ∧
fits .i64 (n1 % (16 : Int)) ∧
Post (.int .i64 (n1 % (16 : Int))) h1) :
    Runs Tryd.prog 11 #[(.int .u32 flow), (.int .u32 seed)] h0 Post :=
  runs_of (args := [(.int .u32 flow), (.int .u32 seed)]) (fun n => ⟨true, false⟩) (fun _ => []) (fun _ => none) (fun _ => []) Tryd.func11 rfl (by rw [Tryd.ntmps11]; simp) (Eq.mp (by kernel_rfl) H)

theorem vc_muezzinref8_Mix (flow : Int) (seed : Int) (h0 : Heap) (Post : Value → Heap → Prop) (H :
(0 ≤ (16 : Int) ∧ (16 : Int) ≤ kbits .u32) ∧
(0 ≤ (16 : Int) ∧ (16 : Int) ≤ kbits .u32) ∧
(0 ≤ (16 : Int) ∧ (16 : Int) ≤ kbits .u32) ∧
Post (.int .u32 (bits .xor .u32 (IntKind.u32.wrap ((bits .xor .u32 (IntKind.u32.wrap ((bits .xor .u32 (bits .xor .u32 flow seed) ((bits .xor .u32 flow seed) / (65536 : Int))) * (73244475 : Int))) ((IntKind.u32.wrap ((bits .xor .u32 (bits .xor .u32 flow seed) ((bits .xor .u32 flow seed) / (65536 : Int))) * (73244475 : Int))) / (65536 : Int))) * (73244475 : Int))) ((IntKind.u32.wrap ((bits .xor .u32 (IntKind.u32.wrap ((bits .xor .u32 (bits .xor .u32 flow seed) ((bits .xor .u32 flow seed) / (65536 : Int))) * (73244475 : Int))) ((IntKind.u32.wrap ((bits .xor .u32 (bits .xor .u32 flow seed) ((bits .xor .u32 flow seed) / (65536 : Int))) * (73244475 : Int))) / (65536 : Int))) * (73244475 : Int))) / (65536 : Int)))) h0) :
    Runs Tryd.prog 32 #[(.int .u32 flow), (.int .u32 seed)] h0 Post :=
  runs_of (args := [(.int .u32 flow), (.int .u32 seed)]) (fun n => ⟨false, false⟩) (fun _ => []) (fun _ => none) (fun _ => []) Tryd.func32 rfl (by rw [Tryd.ntmps32]; simp) (Eq.mp (by kernel_rfl) H)
end Go.Proofs.YtpcilleldanfmaaDoor
