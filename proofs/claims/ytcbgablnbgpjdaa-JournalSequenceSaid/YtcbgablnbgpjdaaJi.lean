/-
  The walk of Empty of the journal.
-/
import Derived.Test.YtcbgablnbgpjdaaJh
namespace Go.Proofs.Ytcbgablnbgpjdaa
open Go.RowKit

theorem Jr.mk_len (c : UInt8) (bl : List Int) (seq : Int) (sl : List UInt8) : (Jr.mk c bl seq sl).length = 128 := by simp [Jr.mk, Jr.pre, Jr.num_len]

set_option maxHeartbeats 800000 in
theorem empty_w (seq : Int) (h0 : -9223372036854775808 ≤ seq) (h1 : seq ≤ 9223372036854775807) (w : World) : Calls Try.prog 25 #[.int .i64 seq] w fun e w' =>
    ∃ v, e = .returned (.tuple #[v, .int .i64 (Jr.empty seq).2]) ∧ w'.ownsRow w.heap.size 5 1 v (Jr.empty seq).1.length ((Jr.empty seq).1.map eb) ∧ Below w.heap.size w w' := by
  have HH := Lib.hid (header_w (ByteArray.mk #[74, 82, 78, 48]) 48 (by rfl) seq (bl := []) (sl := []) (Sl.nil (Value.int .i64) w) (by simp) (Sl.nil eb w) (by simp))
  by_cases f1 : seq < 0
  · have e : Jr.empty seq = ([], 2) := if_pos (Or.inl f1)
    rw [e]
    go_enter Try.func25, Try.ntmps25
    go_wp2
    go_ret2
    exact ⟨_, rfl, World.ownsRow_nil _ _ _ _, Below.refl _ _⟩
  · by_cases f2 : 4294967295 < seq
    · have e : Jr.empty seq = ([], 2) := if_pos (Or.inr f2)
      rw [e]
      have f3 : 0 ≤ seq := by omega
      go_enter Try.func25, Try.ntmps25
      go_wp2
      go_ret2
      exact ⟨_, rfl, World.ownsRow_nil _ _ _ _, Below.refl _ _⟩
    · have e : Jr.empty seq = (Jr.idle seq, 0) := if_neg (by omega)
      rw [e]
      have f3 : 0 ≤ seq := by omega
      have f4 : seq ≤ 4294967295 := by omega
      go_enter Try.func25, Try.ntmps25
      go_wp2_with (go_at_call 37; refine HH.out.mono ?_; rintro e w1 ⟨v1, rfl, ho1, hb1⟩)
      go_ret2
      refine ⟨_, rfl, ?_, hb1⟩
      rw [show (Jr.idle seq).length = 128 from Jr.mk_len _ _ _ _]
      exact ho1
end Go.Proofs.Ytcbgablnbgpjdaa
