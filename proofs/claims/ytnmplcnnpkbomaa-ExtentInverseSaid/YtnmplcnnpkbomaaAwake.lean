/-
  The walk of ratoonlaw07.awake.
-/
import Derived.Test.YtnmplcnnpkbomaaRtake
import Derived.Test.YtnmplcnnpkbomaaRalloc
import Derived.Test.YtnmplcnnpkbomaaSame
namespace Go.Proofs.Ytnmplcnnpkbomaa
open Go.RowKit

theorem sl_one {α : Type} (enc : α → Value) (w : World) (x : α) (t : TypeId) (fr : Nat × Nat) (n : Nat) (hn : n = w.heap.size) : Sl enc (w.alloc (.cells #[enc x] t fr)) (.slice (some ⟨n, 0, none⟩) 1 1) [x] := by
  subst hn
  exact ⟨_, 1, rfl, by simp, by simp [maxLen], by simp, Rd.one _ _ _ _ _⟩

theorem sl_two {α : Type} (enc : α → Value) (w : World) (x y : α) (t : TypeId) (fr : Nat × Nat) (n : Nat) (hn : n = w.heap.size) : Sl enc (w.alloc (.cells #[enc x, enc y] t fr)) (.slice (some ⟨n, 0, none⟩) 2 2) [x, y] := by
  subst hn
  refine ⟨_, 2, rfl, by simp, by simp [maxLen], by simp, fun i hi => ?_⟩
  refine ⟨w.heap.size, 0, rfl, by simp, ?_⟩
  rw [cell_of_row _ _ _ _ _ _ (heap_alloc_new w _)]
  match i, hi with
  | 0, _ => rfl
  | 1, _ => rfl

theorem same_t {va vb : Value} {xs : List UInt8} {w : World} (ha : Sl eb w va xs) (hb : Sl eb w vb xs) :
    Calls Try.prog 14 #[va, vb] w fun e w' => e = .returned (.bool true) ∧ w = w' :=
  (same_w va vb xs xs w ha hb).mono fun _ _ ⟨h, h'⟩ => ⟨by rw [h, decide_eq_true rfl], h'⟩

theorem sameInts_t {va vb : Value} {xs : List Int} {w : World} (ha : Sl (Value.int .i64) w va xs) (hb : Sl (Value.int .i64) w vb xs) :
    Calls Try.prog 17 #[va, vb] w fun e w' => e = .returned (.bool true) ∧ Below w.heap.size w w' :=
  (sameInts_w va vb xs xs w ha hb).mono fun _ _ ⟨h, h'⟩ => ⟨by rw [h, decide_eq_true rfl], h'⟩

set_option maxHeartbeats 1600000 in
theorem awake_w (w : World) :
    Calls Try.prog 10 #[] w fun e w' => e = .returned (.bool true) ∧ Below w.heap.size w w' := by
  have hA : Ex.alloc [38] 0 8 2 = (3, [62], 0) := by decide +kernel
  have hT : Ex.take [38] 0 8 2 = ([0, 3], [47], 0) := by decide +kernel
  have hS0 : Sl eb (w.alloc (.cells #[.int .u8 38] 5 (0, 0))) (.slice (some ⟨w.heap.size, 0, none⟩) 1 1) [38] := sl_one eb w 38 _ _ _ rfl
  have hb0 : Below w.heap.size w (w.alloc (.cells #[.int .u8 38] 5 (0, 0))) := (Below.refl _ w).alloc (Nat.le_refl _) _
  have H1 := Lib.hid (alloc_w 0 8 2 hS0 (by decide) (by decide) (by decide) hA)
  have H2 := Lib.hid (fun w1 (hb1 : Below (w.alloc (.cells #[.int .u8 38] 5 (0, 0))).heap.size (w.alloc (.cells #[.int .u8 38] 5 (0, 0))) w1) => take_w 0 8 2 (hS0.below hb1 (Nat.le_refl _)) (by decide) (by decide) (by decide) hT)
  clear hS0 hA hT
  go_enter Try.func10, Try.ntmps10
  go_wp2_with (first
    | (go_at_call 12; refine H1.out.mono ?_; rintro e w1 ⟨v1, rfl, hs1, hb1⟩)
    | (go_at_call 15; refine (H2.out w1 hb1).mono ?_; rintro e w2 ⟨v2, v3, rfl, hs2, hs3, hb2⟩; have hb02 := hb0.trans ((hb1.trans (hb2.mono hb1.size)).mono hb0.size); have hb2' := hb2; have hs1' := hs1.below hb2 (Nat.le_refl _)))
  refine (same_t (hs1'.below ((Below.refl _ w2).alloc (Nat.le_refl _) _) (Nat.le_refl _)) (sl_one eb _ 62 _ _ _ rfl)).mono ?_
  rintro e w' ⟨rfl, rfl⟩
  clear hs1 hb1 hs1' hb2' H1 H2
  have hI : Sl (Value.int .i64) w2 v2 [0, 3] := hs2.ints
  clear hs2
  go_wp2_with fail
  have hb34 : Below w2.heap.size w2 ((w2.alloc (.cells #[.int .u8 62] 5 (0, 0))).alloc (.cells #[.int .i64 0, .int .i64 3] 3 (0, 0))) := ((Below.refl _ w2).alloc (Nat.le_refl _) _).alloc (by simp) _
  refine (sameInts_t (hI.below hb34 (Nat.le_refl _)) (sl_two (Value.int .i64) _ 0 3 _ _ _ (by simp))).mono ?_
  rintro e w5 ⟨rfl, hb5⟩
  have hb25 := hb34.trans (hb5.mono hb34.size)
  clear hb5 hb34
  go_wp2_with fail
  refine (same_t (hs3.below (hb25.alloc hb25.size _) (Nat.le_refl _)) (sl_one eb _ 47 _ _ _ (by go_size))).mono ?_
  rintro e w' ⟨rfl, rfl⟩
  go_wp2_with fail
  go_ret
  exact ⟨rfl, hb02.trans ((hb25.alloc hb25.size _).mono hb02.size)⟩
end Go.Proofs.Ytnmplcnnpkbomaa
