/-
  An argument of 16 bits laid open.
-/
import Derived.Test.YteeoonoccklhmaaArgs
namespace Go.Proofs.Yteeoonoccklhmaa
open Go.RowKit Go.ChangeShapes Go.WideShapes
theorem open_u16 {w : World} {r : Reach} {b : Nat} {v : Value} (hv : Value.okWide Try.prog w r b 46 v) (h : Arg w 46 v.cells.toList) : IsU16 w v := by
  obtain ⟨n, e, hw⟩ := h.int Try.underlying46
  refine ⟨n, cells_int Try.underlying46 hv e, ?_⟩
  simpa [Lit.wf, IntKind.min, IntKind.max, IntKind.signed, IntKind.bits] using hw
end Go.Proofs.Yteeoonoccklhmaa
