/-
  Do of disk, all cases (printed by gen/mk11do.py).
-/
import Derived.Test.YteeoonoccklhmaaDfABC
import Derived.Test.YteeoonoccklhmaaDfDF
import Derived.Test.YteeoonoccklhmaaDfE
import Derived.Test.YteeoonoccklhmaaDfG
import Derived.Test.YteeoonoccklhmaaDfH
import Derived.Test.YteeoonoccklhmaaDfI
namespace Go.Proofs.Yteeoonoccklhmaa
open Go.RowKit

set_option maxRecDepth 100000 in
theorem do_w (o : Bool) (ct co cp l lt la t q p : Int) {ub uc ul ux : Value} {es : List Tr} {bs : List (List UInt8)} {cd ld xs : List UInt8} {w : World} {X : Nat → Prop} (hd : De w ub uc ul es bs cd ld) (hE : Av X (fun W => ∀ i (h : i < es.length) (h' : i < bs.length), Sl eb W (et es[i]) bs[i]) w)
    (hx : Sl eb w ux xs) (hes : es.length ≤ 1000) (hcd : cd.length ≤ 1000) (hld : ld.length ≤ 1000) (hxs : xs.length ≤ 1000) :
    Calls Try.prog 11 #[.agg #[ub, .bool o, .int .i64 ct, .int .i64 co, .int .i64 cp, uc, .int .i64 l, .int .i64 lt, .int .i64 la, ul], .agg #[.int .i64 t, .int .i64 q, .int .i64 p, ux]] w (RetDo w X (Dk.give (bs, (o, (ct, co, cp, cd), l, (lt, la, ld))) (t, q, p, xs))) := by
  cases hv : Dk.valid (bs, (o, (ct, co, cp, cd), l, (lt, la, ld))) with
  | false => exact do_A o ct co cp l lt la t q p hd hE hx hes hcd hld hxs hv
  | true =>
  cases hp : Dk.prop t with
  | false => exact do_B o ct co cp l lt la t q p hd hE hx hes hcd hld hxs hv hp
  | true =>
  cases o with
  | true =>
    rcases Int.lt_trichotomy t ct with h | h | h
    · exact do_D true ct co cp l lt la t q p hd hE hx hes hcd hld hxs rfl hv hp h
    · exact do_E true ct co cp l lt la t q p hd hE hx hes hcd hld hxs rfl hv hp h
    · exact do_C true ct co cp l lt la t q p hd hE hx hes hcd hld hxs rfl hv hp h
  | false =>
    rcases Int.lt_trichotomy t lt with h | h | h
    · exact do_F false ct co cp l lt la t q p hd hE hx hes hcd hld hxs rfl hv hp h
    · exact do_G false ct co cp l lt la t q p hd hE hx hes hcd hld hxs rfl hv hp h
    · cases hb : Dk.blk p with
      | true => exact do_H false ct co cp l lt la t q p hd hE hx hes hcd hld hxs rfl hv hp h hb
      | false => exact do_I false ct co cp l lt la t q p hd hE hx hes hcd hld hxs rfl hv hp h hb
end Go.Proofs.Yteeoonoccklhmaa
