/-
  The walk of ratoonref08.SameInts.
-/
import Derived.Test.YtolfkgbcjfkbnaaRows
import Derived.Test.YtolfkgbcjfkbnaaMem
namespace Go.Proofs.Ytolfkgbcjfkbnaa
open Go.RowKit

theorem ret_bool' {a b : Bool} (h : a = b) : Ending.returned (.bool a) = .returned (.bool b) := by rw [h]

set_option maxHeartbeats 400000 in
theorem sameInts_q (va vb : Value) (xs ys : List Int) (w : World) (ha : Sl (Value.int .i64) w va xs) (hb : Sl (Value.int .i64) w vb ys) :
    Calls Try.prog 14 #[va, vb] w fun e w' => e = .returned (.bool (decide (xs = ys))) ∧ ∃ q, w' = w.drewN q := by
  obtain ⟨a, ca, rfl, ha1, ha2, ha3, hra⟩ := ha
  obtain ⟨b, cb, rfl, hb1, hb2, hb3, hrb⟩ := hb
  unfold maxLen at ha2 hb2
  by_cases hl : xs.length = ys.length
  · have hne : ((xs.length : Int) != (ys.length : Int)) = false := by simp [hl]
    have HL := Lib.hid hl
    clear hl
    go_enter Try.func14, Try.ntmps14
    go_wp2
    go_loopw [5] (fun i wr => ∃ k : Nat, k ≤ xs.length ∧ i = .int .i64 k ∧ (∀ j (hj : j < xs.length) (hj' : j < ys.length), j < k → xs[j] = ys[j]) ∧ ∃ q, wr = w.drewN q) (fun i _ => xs.length - (intOf i).toNat)
    case atStart => exact ⟨0, Nat.zero_le _, rfl, fun j _ _ hj => absurd hj (Nat.not_lt_zero _), 0, rfl⟩
    case round =>
      obtain ⟨k, hk, rfl, hno, q, rfl⟩ := hrel
      have HN := Lib.hid hno
      clear hno
      by_cases hlt : k < xs.length
      · have hlt' : k < ys.length := by have := HL.out; omega
        obtain ⟨b1, off1, rfl, hbl1, hc1⟩ := hra.form (by omega)
        obtain ⟨b2, off2, rfl, hbl2, hc2⟩ := hrb.form (by omega)
        have hk1 : w.cell? ⟨b1, off1 + k, none⟩ = some (.int .i64 xs[k]) := hc1 k hlt
        have hk2 : w.cell? ⟨b2, off2 + k, none⟩ = some (.int .i64 ys[k]) := hc2 k hlt'
        clear hc1 hc2
        have f1 : (0 : Int) ≤ (k : Int) := by omega
        have f2 : (k : Int) < (xs.length : Int) := by omega
        have f3 : (k : Int) < (ys.length : Int) := by omega
        by_cases he : xs[k] = ys[k]
        · have hq : (xs[k] != ys[k]) = false := by simp [he]
          have HE := Lib.hid he
          clear he
          go_wp2_with fail
          go_quiet (fail)
          go_wp2
          go_roundw
          case rel => exact ⟨k + 1, by omega, by go_num, fun j hj hj' hjk => by by_cases e : j = k; { subst e; exact HE.out }; exact HN.out j hj hj' (by omega), by first | exact ⟨_, rfl⟩ | exact ⟨_, World.drewN_drewN _ _ _⟩⟩
          case measure => simp [intOf]; omega
        · have hq : (xs[k] != ys[k]) = true := by simp [he]
          have HE := Lib.hid he
          clear he
          go_wp2_with fail
          go_quiet (fail)
          go_wp2
          go_ret
          refine ⟨ret_bool' ?_, by first | exact ⟨_, rfl⟩ | exact ⟨_, World.drewN_drewN _ _ _⟩⟩
          symm
          rw [decide_eq_false_iff_not]
          intro e
          subst e
          exact HE.out rfl
      · go_wp2
        go_ret
        refine ⟨ret_bool' ?_, q, rfl⟩
        symm
        rw [decide_eq_true_iff]
        exact List.ext_getElem HL.out fun j h1 h2 => HN.out j h1 h2 (by omega)
  · have hne : ((xs.length : Int) != (ys.length : Int)) = true := by rw [bne_iff_ne]; omega
    have HL := Lib.hid hl
    clear hl
    go_enter Try.func14, Try.ntmps14
    go_wp2
    go_ret
    refine ⟨ret_bool' ?_, 0, rfl⟩
    symm
    rw [decide_eq_false_iff_not]
    intro e
    subst e
    exact HL.out rfl

theorem sameInts_w (va vb : Value) (xs ys : List Int) (w : World) (ha : Sl (Value.int .i64) w va xs) (hb : Sl (Value.int .i64) w vb ys) :
    Calls Try.prog 14 #[va, vb] w fun e w' => e = .returned (.bool (decide (xs = ys))) ∧ Below w.heap.size w w' :=
  (sameInts_q va vb xs ys w ha hb).mono fun _ _ ⟨h, q, hq⟩ => ⟨h, hq ▸ below_drewN (Below.refl _ _) q⟩
end Go.Proofs.Ytolfkgbcjfkbnaa
