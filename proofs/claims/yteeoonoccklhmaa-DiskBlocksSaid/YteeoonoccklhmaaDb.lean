/-
  The walks of the channel's valid of the program and of the reference, and of SameCommand and SameAnswer.
-/
import Derived.Test.YteeoonoccklhmaaDa
namespace Go.Proofs.Yteeoonoccklhmaa
open Go.RowKit

set_option maxHeartbeats 3200000 in
theorem cvalid_w (o : Bool) (ct co cp l lt la : Int) {uc ul : Value} {cd ld : List UInt8} {w : World} (hc : Sl eb w uc cd) :
    Calls Try.prog 38 #[.agg #[.bool o, .int .i64 ct, .int .i64 co, .int .i64 cp, uc, .int .i64 l, .int .i64 lt, .int .i64 la, ul]] w fun e w' => e = .returned (.bool (Dk.validC (o, (ct, co, cp, cd), l, (lt, la, ld)))) ∧ Below w.heap.size w w' := by
  obtain ⟨a, c, rfl, -⟩ := id hc
  have hL : Below w.heap.size w (w.alloc (.cells #[.bool o, .int .i64 ct, .int .i64 co, .int .i64 cp, .slice a cd.length c, .int .i64 l, .int .i64 lt, .int .i64 la, ul] 37 (0, 0))) := low_alloc _ _
  have HL := Lib.hid hL
  have HE : Hid (∀ r, r = Dk.validC (o, (ct, co, cp, cd), l, (lt, la, ld)) → Dk.validC (o, (ct, co, cp, cd), l, (lt, la, ld)) = r) := fun _ h => h.symm
  clear hc hL
  have hP0 := fun W => proper_w lt W
  have hP1 := fun W => proper_w ct W
  have HP0 := Lib.hid hP0
  have HP1 := Lib.hid hP1
  clear hP0 hP1
  cases h0 : Dk.prop lt <;> cases h1 : Dk.prop ct <;> cases o
  all_goals
    rw [h0] at HP0
    rw [h1] at HP1
    have HH0 := Lib.hid h0
    have HH1 := Lib.hid h1
    clear h0 h1
    go_enter Try.func38, Try.ntmps38
    go_wp2_with (first
      | (go_at_call 29; (with_reducible refine (HP0.out _).mono ?_); rintro e w1 ⟨rfl, rfl⟩)
      | (go_at_call 29; (with_reducible refine (HP1.out _).mono ?_); rintro e w1 ⟨rfl, rfl⟩))
    all_goals (try go_wp2)
  all_goals
    go_ret
    refine ⟨ret_bool ?_, low_alloc _ _⟩
    have e0 := HH0.out
    have e1 := HH1.out
    clear HP0 HP1 HH0 HH1 HL
    unfold Dk.validC Dk.zcm
    first | (simp [*]; done) | (simp [*]; omega) | (cases cd <;> simp [*]; done) | (cases cd <;> simp [*] <;> omega)
end Go.Proofs.Yteeoonoccklhmaa
