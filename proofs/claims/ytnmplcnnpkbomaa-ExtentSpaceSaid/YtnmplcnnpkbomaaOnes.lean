/-
  OnesCount8: its walk, by the lemma on its table.
-/
import Derived.Test.YtnmplcnnpkbomaaGet
import Derived.Lib.BitFns
namespace Go.Proofs.Ytnmplcnnpkbomaa
open Go.RowKit

set_option maxRecDepth 1000000 in
set_option maxHeartbeats 400000 in
theorem ones_w (x : UInt8) (w : World) :
    Calls Try.prog 38 #[eb x] w fun e w' => e = .returned (.int .i64 (Lib.onesCount x.toNat)) ∧ w = w' := by
  have h1 : (x.toNat : Int) ≤ 255 := by have := x.toNat_lt; omega
  have h0 : (0 : Int) ≤ (x.toNat : Int) := by omega
  have hp := Lib.pop8_int (x.toNat : Int) h0 h1
  rw [Int.toNat_natCast] at hp
  rw [← hp]
  clear hp
  unfold eb
  generalize (x.toNat : Int) = z at *
  go_enter Try.func38, Try.ntmps38
  go_wp2
  go_ret
  refine ⟨ret_int ?_, rfl⟩
  generalize Lib.pop8 z = p
  unfold wrap64
  first | rfl | omega
end Go.Proofs.Ytnmplcnnpkbomaa
