/-
  The updates laid open: a slice of slices of writes.
-/
import Derived.Test.YtcbgablnbgpjdaaArgs
import Derived.Test.YtcbgablnbgpjdaaLw
namespace Go.Proofs.Ytcbgablnbgpjdaa
open Go.RowKit Go.ChangeShapes Go.WideShapes

def IsUps (w : World) (v : Value) : Prop := ∃ (vs : List Value) (us : List (List Jr.Wr)), Sl id w v vs ∧ vs.length = us.length ∧ ∀ i (h : i < vs.length) (h' : i < us.length), Wp w vs[i] us[i]

theorem open_ups {w : World} {r : Reach} {b : Nat} {v : Value} (hv : Value.okWide Try.prog w r b 60 v) (h : Arg w 60 v.cells.toList) : IsUps w v := by
  obtain ⟨u, vs, us, e, h1, h2, h3⟩ := h.rows (R := fun v x => Wp w v x) Try.underlying60 (by kernel_rfl) (fun cs' h' => wrs_cells h')
  rw [cells_slice Try.underlying60 hv e]
  exact ⟨vs, us, h1, h2, h3⟩
end Go.Proofs.Ytcbgablnbgpjdaa
