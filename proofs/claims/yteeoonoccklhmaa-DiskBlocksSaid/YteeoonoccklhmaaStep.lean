/-
  No statement is proved here: later worlds of a walk.
-/
import Derived.Test.YteeoonoccklhmaaKeeps
namespace Go.Proofs.Yteeoonoccklhmaa
open Go.RowKit

theorem stepAny {w X W : World} (h : Below w.heap.size w X) (k : Below X.heap.size X W) : Below w.heap.size w W := h.trans (k.mono h.size)
theorem low_refl (w : World) : Below w.heap.size w w := Below.refl _ w
theorem low_drew (w : World) : Below w.heap.size w w.drew := (Below.refl _ w).drew
theorem low_alloc (w : World) (o : Obj) : Below w.heap.size w (w.alloc o) := (Below.refl _ w).alloc (Nat.le_refl _) o
theorem low_adrew (w : World) (o : Obj) : Below w.heap.size w (w.alloc o).drew := (low_alloc w o).drew
theorem low_drewN (w : World) (q : Nat) : Below w.heap.size w (w.drewN q) := ⟨rfl, rfl, rfl, Nat.le_refl _, fun _ _ => rfl⟩
theorem Below.lo {w W : World} (h : Below w.heap.size w W) : w.heap.size ≤ W.heap.size := h.size
/-- A world that is below another one and the next one. -/
theorem low_trans {w X W : World} (h : Below w.heap.size w X) (k : Below X.heap.size X W) : Below w.heap.size w W := h.trans (k.mono h.size)
end Go.Proofs.Yteeoonoccklhmaa
