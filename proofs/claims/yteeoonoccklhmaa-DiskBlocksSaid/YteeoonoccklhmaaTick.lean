/-
  Tick of disk, all cases (printed by gen/mk11tick.py).
-/
import Derived.Test.YteeoonoccklhmaaTke
namespace Go.Proofs.Yteeoonoccklhmaa
open Go.RowKit

set_option maxRecDepth 100000 in
theorem tick_w (o : Bool) (ct co cp l lt la : Int) {ub uc ul : Value} {es : List Tr} {bs : List (List UInt8)} {cd ld : List UInt8} {w : World} {X : Nat → Prop} (hd : De w ub uc ul es bs cd ld) (hE : Av X (fun W => ∀ i (h : i < es.length) (h' : i < bs.length), Sl eb W (et es[i]) bs[i]) w)
    (hes : es.length ≤ 1000) (hcd : cd.length ≤ 1000) (hld : ld.length ≤ 1000) (hX : ∀ b, X b → b < w.heap.size) :
    Calls Try.prog 20 #[.agg #[ub, .bool o, .int .i64 ct, .int .i64 co, .int .i64 cp, uc, .int .i64 l, .int .i64 lt, .int .i64 la, ul]] w (RetTk w X (Dk.tick (bs, (o, (ct, co, cp, cd), l, (lt, la, ld))))) := by
  cases hv : Dk.valid (bs, (o, (ct, co, cp, cd), l, (lt, la, ld))) with
  | false => exact tick_A_w o ct co cp l lt la hd hE hes hcd hld hv
  | true =>
  cases o with
  | false => exact tick_B_w false ct co cp l lt la hd hE hes hcd hld hv rfl
  | true =>
    have hp := (valid_parts hv).2.2
    by_cases h : 1 < l
    · exact tick_C_w true ct co cp l lt la hd hE hes hcd hld hv rfl h
    · by_cases he : ct = lt
      · exact tick_D_w true ct co cp l lt la hd hE hes hcd hld hv rfl (by omega) he.symm hX
      · exact tick_E_w true ct co cp l lt la hd hE hes hcd hld hv rfl (by omega) he hX
end Go.Proofs.Yteeoonoccklhmaa
