/- Small laws on worlds: a block whose cells are known whole. No program. -/
import Derived.WalkKit
import Derived.ProofKit
namespace Go.Proofs.Ytlgjjjaepcgaoaa
open Go.RowKit
/-- Block b holds exactly the cells vs, none of them frozen. -/
def Blk (w : World) (b : Nat) (T : TypeId) (vs : List Value) : Prop := w.heap[b]? = some (.cells vs.toArray T (0, 0))
section
variable {w : World} {b : Nat} {T : TypeId} {vs : List Value}
theorem Blk.lt (h : Blk w b T vs) : b < w.heap.size := lt_of_block h
theorem Blk.cell (h : Blk w b T vs) {i : Nat} {v : Value} (hi : vs[i]? = some v) : w.cell? ⟨b, i, none⟩ = some v := by
  unfold Blk at h; simp [World.cell?, h, hi]
theorem Blk.free (h : Blk w b T vs) (i : Nat) : w.frozen? ⟨b, i, none⟩ = false := by
  unfold Blk at h; simp [World.frozen?, h]
theorem Blk.alloc (h : Blk w b T vs) (o : Obj) : Blk (w.alloc o) b T vs := by
  unfold Blk; rw [Below.heap_alloc _ _ _ h.lt]; exact h
theorem Blk.new (w : World) (T : TypeId) (vs : List Value) : Blk (w.alloc (.cells vs.toArray T)) w.heap.size T vs := by
  unfold Blk; exact (MapKept.heap_alloc w _).1
theorem Blk.drew (h : Blk w b T vs) : Blk w.drew b T vs := h
theorem Blk.set (h : Blk w b T vs) (i : Nat) (v : Value) : Blk (w.setCell ⟨b, i, none⟩ v) b T (vs.set i v) := by
  have hlt := h.lt
  have h' : w.heap[b] = .cells vs.toArray T (0, 0) := by unfold Blk at h; simpa [Array.getElem?_eq_getElem hlt] using h
  unfold Blk
  show (w.heap.modify b _)[b]? = _
  rw [Array.getElem?_eq_getElem (by simpa using hlt), Array.getElem_modify_self, h']
  simp
theorem Blk.other (h : Blk w b T vs) {a : Addr} (ha : b ≠ a.block) (v : Value) : Blk (w.setCell a v) b T vs := by
  unfold Blk; rw [Below.heap_setCell _ _ _ _ ha]; exact h
theorem Blk.below {w' : World} {B : Nat} (h : Blk w b T vs) (hb : Below B w w') (hB : b < B) : Blk w' b T vs := by
  unfold Blk; rw [hb.block b hB]; exact h
end
end Go.Proofs.Ytlgjjjaepcgaoaa
