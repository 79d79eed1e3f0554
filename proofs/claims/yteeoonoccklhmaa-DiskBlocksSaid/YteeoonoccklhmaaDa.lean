/-
  No statement is proved here: how a disk lies in memory; the walks of proper and block, and of the channel's valid.
-/
import Derived.Test.YteeoonoccklhmaaPgs
import Derived.Test.YteeoonoccklhmaaAv
import Derived.Test.YteeoonoccklhmaaSpec
namespace Go.Proofs.Yteeoonoccklhmaa
open Go.RowKit

/-- The cells of a disk. -/
def dkC (ub : Value) (o : Bool) (ct co cp : Int) (uc : Value) (l lt la : Int) (ul : Value) : List Value :=
  [ub, .bool o, .int .i64 ct, .int .i64 co, .int .i64 cp, uc, .int .i64 l, .int .i64 lt, .int .i64 la, ul]
/-- The cells of a channel. -/
def chC (o : Bool) (ct co cp : Int) (uc : Value) (l lt la : Int) (ul : Value) : List Value :=
  [.bool o, .int .i64 ct, .int .i64 co, .int .i64 cp, uc, .int .i64 l, .int .i64 lt, .int .i64 la, ul]

/-- The parts of a disk read as s. -/
structure Dr (W : World) (ub : Value) (uc : Value) (ul : Value) (bs : List (List UInt8)) (cd ld : List UInt8) : Prop where
  b : Pg W ub bs
  c : Sl eb W uc cd
  l : Sl eb W ul ld

section
variable {W W' : World} {ub uc ul : Value} {bs : List (List UInt8)} {cd ld : List UInt8} {X Y : Nat → Prop} {B : Nat}
theorem Dr.below (h : Dr W ub uc ul bs cd ld) (hb : Below B W W') (hB : W.heap.size ≤ B) : Dr W' ub uc ul bs cd ld := ⟨h.b.below hb hB, h.c.below hb hB, h.l.below hb hB⟩
theorem Dr.keep (h : Dr W ub uc ul bs cd ld) (hk : ∀ b, b < W.heap.size → W'.heap[b]? = W.heap[b]?) : Dr W' ub uc ul bs cd ld := ⟨h.b.keep hk, h.c.keep hk, h.l.keep hk⟩
theorem Dr.nil : Dr W (.slice none 0 0) (.slice none 0 0) (.slice none 0 0) [] [] [] := ⟨Pg.nil _, Sl.nil _ _, Sl.nil _ _⟩
/-- The parts, and that none of them lies in X. -/
abbrev Da (X : Nat → Prop) (W : World) (ub : Value) (uc : Value) (ul : Value) (bs : List (List UInt8)) (cd ld : List UInt8) : Prop := Av X (fun W => Dr W ub uc ul bs cd ld) W
end

theorem tmod2 (t : Int) (h : 2 ≤ t) : t.tmod 2 = t % 2 := Int.tmod_eq_emod_of_nonneg (by omega)

theorem proper_w (t : Int) (w : World) : Calls Try.prog 29 #[.int .i64 t] w fun e w' => e = .returned (.bool (Dk.prop t)) ∧ w = w' := by
  by_cases h1 : 2 ≤ t
  · have HE : Hid (Dk.prop t = (t.tmod 2 == 0)) := by show _ = _; unfold Dk.prop; rw [decide_eq_true h1, Bool.true_and]; rfl
    generalize Dk.prop t = r at *
    go_enter Try.func29, Try.ntmps29
    go_wp2
    go_ret
    refine ⟨ret_bool ?_, rfl⟩
    rw [HE.out]
    first | rfl | (rw [tmod2 t h1]) | (simp [tmod2 t h1])
  · go_enter Try.func29, Try.ntmps29
    go_wp2
    go_ret
    exact ⟨ret_bool (by unfold Dk.prop; rw [decide_eq_false (by omega), Bool.false_and]), rfl⟩

theorem block_w (n : Int) (w : World) : Calls Try.prog 31 #[.int .i64 n] w fun e w' => e = .returned (.bool (Dk.blk n)) ∧ w = w' := by
  by_cases h1 : 0 ≤ n
  · go_enter Try.func31, Try.ntmps31
    go_wp2
    go_ret
    exact ⟨ret_bool (by unfold Dk.blk; simp [h1]), rfl⟩
  · go_enter Try.func31, Try.ntmps31
    go_wp2
    go_ret
    exact ⟨ret_bool (by unfold Dk.blk; rw [decide_eq_false (by omega), Bool.false_and]), rfl⟩

theorem rblock_w (n : Int) (w : World) : Calls Try.prog 27 #[.int .i64 n] w fun e w' => e = .returned (.bool (Dk.blk n)) ∧ w = w' := by
  by_cases h1 : 0 ≤ n
  · go_enter Try.func27, Try.ntmps27
    go_wp2
    go_ret
    exact ⟨ret_bool (by unfold Dk.blk; simp [h1]), rfl⟩
  · go_enter Try.func27, Try.ntmps27
    go_wp2
    go_ret
    exact ⟨ret_bool (by unfold Dk.blk; rw [decide_eq_false (by omega), Bool.false_and]), rfl⟩

theorem rproper_w (t : Int) (w : World) : Calls Try.prog 33 #[.int .i64 t, .int .i64 0] w fun e w' => e = .returned (.bool (Dk.prop t)) ∧ w = w' := by
  by_cases h1 : 2 ≤ t
  · have HE : Hid (Dk.prop t = (t.tmod 2 == 0)) := by show _ = _; unfold Dk.prop; rw [decide_eq_true h1, Bool.true_and]; rfl
    generalize Dk.prop t = r at *
    go_enter Try.func33, Try.ntmps33
    go_wp2
    go_ret
    refine ⟨ret_bool ?_, rfl⟩
    rw [HE.out]
    first | rfl | (rw [tmod2 t h1]) | (simp [tmod2 t h1])
  · go_enter Try.func33, Try.ntmps33
    go_wp2
    go_ret
    exact ⟨ret_bool (by unfold Dk.prop; rw [decide_eq_false (by omega), Bool.false_and]), rfl⟩
end Go.Proofs.Yteeoonoccklhmaa
