/-
  The walk of sameMsg of the laws, for two messages that are equal.
-/
import Derived.Test.YtehniblcodkmaaaMsg
import Derived.ChangeKeysEq
namespace Go.Proofs.Ytehniblcodkmaaa
open Go.RowKit

set_option maxRecDepth 20000 in
theorem eq_args (a b c d : Int) (W : World) : (Op.equalIn 10000 62 (.agg #[.int .i64 a, .int .i64 b, .int .i64 c, .int .i64 d]) (.agg #[.int .i64 a, .int .i64 b, .int .i64 c, .int .i64 d])).run Try.prog W = .ok true W := by
  have hu : Try.prog.underlying 62 = some (.array 4 3) := by kernel_rfl
  have h3 : Try.prog.underlying 3 = some (.int .i64) := by kernel_rfl
  obtain ⟨i, hi⟩ : ∃ i, Try.prog.info? 3 = some i := ⟨_, rfl⟩
  have p0 : ∀ W, (part 3 #[.int .i64 a, .int .i64 b, .int .i64 c, .int .i64 d] 0).run Try.prog W = .ok (.int .i64 a) W := fun _ => by kernel_rfl
  have p1 : ∀ W, (part 3 #[.int .i64 a, .int .i64 b, .int .i64 c, .int .i64 d] 1).run Try.prog W = .ok (.int .i64 b) W := fun _ => by kernel_rfl
  have p2 : ∀ W, (part 3 #[.int .i64 a, .int .i64 b, .int .i64 c, .int .i64 d] 2).run Try.prog W = .ok (.int .i64 c) W := fun _ => by kernel_rfl
  have p3 : ∀ W, (part 3 #[.int .i64 a, .int .i64 b, .int .i64 c, .int .i64 d] 3).run Try.prog W = .ok (.int .i64 d) W := fun _ => by kernel_rfl
  have hc : Try.prog.cellsOf 3 = 1 := by kernel_rfl
  have he : ∀ (x : Int) W, (Op.equalIn 9999 3 (.int .i64 x) (.int .i64 x)).run Try.prog W = .ok true W := fun x W => by
    have := run_equalIn_int (P := Try.prog) (w := W) 9998 3 .i64 .i64 x x h3
    rw [this]
    simp
  have h1 := run_equalIn_array (P := Try.prog) (w := W) 9999 (t := 62) (e := 3) (n := 4) (i := i) #[.int .i64 a, .int .i64 b, .int .i64 c, .int .i64 d] #[.int .i64 a, .int .i64 b, .int .i64 c, .int .i64 d] hu hi
  rw [h1, hc, show List.range 4 = [0, 1, 2, 3] from rfl]
  simp only [Op.eqItems, Sem.run_bind, Nat.mul_one, p0, p1, p2, p3, he, Result.andThen_ok, Bool.not_true, Bool.false_eq_true, if_false, Sem.run_pure]

set_option maxRecDepth 20000 in
set_option maxHeartbeats 1600000 in
theorem sameMsg_t (src dst kind seq a0 a1 a2 a3 : Int) {u u2 : Value} {xs : List UInt8} {w : World} (h1 : Sl eb w u xs) (h2 : Sl eb w u2 xs) :
    Calls Try.prog 33 #[.agg #[.int .i64 src, .int .i64 dst, .int .i64 kind, .int .i64 seq, .int .i64 a0, .int .i64 a1, .int .i64 a2, .int .i64 a3, u], .agg #[.int .i64 src, .int .i64 dst, .int .i64 kind, .int .i64 seq, .int .i64 a0, .int .i64 a1, .int .i64 a2, .int .i64 a3, u2]] w fun e w' => e = .returned (.bool true) ∧ Below w.heap.size w w' := by
  obtain ⟨a, c, rfl, -⟩ := id h1
  obtain ⟨a', c', rfl, -⟩ := id h2
  have hL : ∀ o1 o2, Below w.heap.size w ((w.alloc o1).alloc o2) := fun o1 o2 => (low_alloc _ _).alloc (by simp) _
  have HSB : Hid (∀ W, Below w.heap.size w W → Calls Try.prog 40 #[.slice a xs.length c, .slice a' xs.length c'] W fun e w' => e = .returned (.bool true) ∧ Below W.heap.size W w') := fun W hW => sameBytes_t (h1.below hW (Nat.le_refl _)) (h2.below hW (Nat.le_refl _))
  have HL := Lib.hid hL
  have hq := eq_args a0 a1 a2 a3
  clear h1 h2 hL
  go_enter Try.func33, Try.ntmps33
  go_wp2_with (go_at_call 40; refine (HSB.out _ (HL.out _ _)).mono ?_; rintro e w1 ⟨rfl, hb1⟩)
  go_ret
  exact ⟨ret_bool (by simp), stepAny (HL.out _ _) hb1⟩
end Go.Proofs.Ytehniblcodkmaaa
