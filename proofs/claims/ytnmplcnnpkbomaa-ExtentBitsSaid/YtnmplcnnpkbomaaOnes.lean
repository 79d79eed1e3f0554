/-
  OnesCount8: the shelf's contract, laid at this program, and told in bits.
-/
import Derived.Test.YtnmplcnnpkbomaaGet
import Derived.Shelf.Small.Bits
import Derived.Ground.NamesProg
import Derived.Shelf.Lay
namespace Go.Proofs
open Go.Shelf
shelf_lay Lays.n135 Nm 135 at Try as Try.lays135
end Go.Proofs
namespace Go.Proofs.Ytnmplcnnpkbomaa
open Go.RowKit

theorem ones_w (x : UInt8) (w : World) :
    Calls Try.prog 38 #[eb x] w fun e w' => e = .returned (.int .i64 (Lib.onesCount x.toNat)) ∧ w = w' := by
  have hx : (x.toNat : Int) ≤ 255 := by have := x.toNat_lt; omega
  exact (Any.bits_OnesCount8 Try.lays135 (x.toNat : Int) w (by omega) hx).mono fun _ _ h => ⟨h.1, h.2.symm⟩
end Go.Proofs.Ytnmplcnnpkbomaa
