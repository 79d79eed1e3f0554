/-
  The walks of ExtentAlloc and ExtentTake.
-/
import Derived.Test.YtnmplcnnpkbomaaAwake
namespace Go.Proofs.Ytnmplcnnpkbomaa
open Go.RowKit

/-- A slice of bytes that came in. -/
theorem Sl.bytes {w : World} {v : Value} {zs : List Int} (h : Sl (Value.int .u8) w v zs) (hw : ∀ n ∈ zs, (Lit.int .u8 n).wf = true) : ∃ xs : List UInt8, Sl eb w v xs ∧ xs.length = zs.length := by
  refine ⟨zs.map fun n => UInt8.ofNat n.toNat, ?_, by simp⟩
  obtain ⟨a, cap, h1, h2, h3, h4, h5⟩ := h
  refine ⟨a, cap, by simpa using h1, by simpa using h2, h3, h4, fun i hi => ?_⟩
  have hi' : i < zs.length := by simpa using hi
  obtain ⟨b, off, ha, hlt, hc⟩ := h5 i hi'
  have hb := hw zs[i] (List.getElem_mem hi')
  simp [Lit.wf, IntKind.min, IntKind.max, IntKind.signed, IntKind.bits] at hb
  refine ⟨b, off, ha, hlt, ?_⟩
  rw [hc, List.getElem_map]
  unfold eb
  rw [UInt8.toNat_ofNat', Nat.mod_eq_of_lt (by omega)]
  congr 2
  omega

theorem box2 {w w' : World} {u v : Value} {T : TypeId} {fr : Nat × Nat} (hb : Below (w.alloc (.cells #[u, v] T fr)).heap.size (w.alloc (.cells #[u, v] T fr)) w') :
    Below w.heap.size w w' ∧ w'.cell? ⟨w.heap.size, 0, none⟩ = some u ∧ w'.cell? ⟨w.heap.size, 1, none⟩ = some v := by
  have hb0 : Below w.heap.size w (w.alloc (.cells #[u, v] T fr)) := (Below.refl _ w).alloc (Nat.le_refl _) _
  refine ⟨hb0.trans (hb.mono hb0.size), ?_, ?_⟩
  · rw [hb.cell (p := ⟨w.heap.size, 0, none⟩) (by simp), cell_of_row _ _ _ _ _ _ (heap_alloc_new w _)]; rfl
  · rw [hb.cell (p := ⟨w.heap.size, 1, none⟩) (by simp), cell_of_row _ _ _ _ _ _ (heap_alloc_new w _)]; rfl

set_option maxHeartbeats 1600000 in
theorem lalloc_w {v : Value} {xs : List UInt8} (x y n : Int) (w : World) (hv : Sl eb w v xs) (hx : x ≤ 9223372036854775807) (hn : n ≤ 9223372036854775807) :
    Calls Try.prog 3 #[v, .agg #[.int .i64 x, .int .i64 y], .int .i64 n] w fun e w' => e = .returned (.bool true) ∧ Below w.heap.size w w' := by
  have HV := Lib.hid hv
  have HF := Lib.hid (fun w' (hb : Below w.heap.size w w') => few_w v xs w' (HV.out.below hb (Nat.le_refl _)))
  obtain ⟨a, cap, rfl, hc, hcm, hna, hrd⟩ := hv
  clear hrd
  by_cases hm : xs.length ≤ 40
  · rcases hr : Ex.alloc xs x y n with ⟨k, ys, c⟩
    have H1 := Lib.hid (fun w' (hb : Below w.heap.size w w') => alloc_w x y n (HV.out.below hb (Nat.le_refl _)) (by omega) hx hn hr)
    have H2 := Lib.hid (fun w' (hb : Below w.heap.size w w') => ralloc_w x y n (HV.out.below hb (Nat.le_refl _)) (by omega) hx hn hr)
    rw [decide_eq_true (by omega : (xs.length : Int) ≤ 40)] at HF
    clear hr HV
    go_enter Try.func3, Try.ntmps3
    go_wp2_with (first
      | (go_at_call 10; refine (awake_w _).mono ?_; rintro e w1 ⟨rfl, hb1⟩; obtain ⟨hbw1, hc10, hc11⟩ := box2 hb1)
      | (go_at_call 11; refine (HF.out w1 hbw1).mono ?_; rintro e w' ⟨rfl, rfl⟩)
      | (go_at_call 12; refine (H1.out w1 hbw1).mono ?_; rintro e w2 ⟨v1, rfl, hs1, hb2⟩; obtain ⟨hbw2, hc20, hc21⟩ := box2 (hb1.trans (hb2.mono hb1.size)))
      | (go_at_call 13; refine (H2.out w2 hbw2).mono ?_; rintro e w3 ⟨u1, rfl, ht1, hb3⟩; have hbw3 := hbw2.trans (hb3.mono hbw2.size))
      | (go_at_call 14; refine (same_t (hs1.below hb3 (Nat.le_refl _)) ht1).mono ?_; rintro e w' ⟨rfl, rfl⟩))
    go_ret
    exact ⟨rfl, hbw3⟩
  · rw [decide_eq_false (by omega : ¬ (xs.length : Int) ≤ 40)] at HF
    clear HV
    go_enter Try.func3, Try.ntmps3
    go_wp2_with (first
      | (go_at_call 10; refine (awake_w _).mono ?_; rintro e w1 ⟨rfl, hb1⟩; obtain ⟨hbw1, hc10, hc11⟩ := box2 hb1)
      | (go_at_call 11; refine (HF.out w1 hbw1).mono ?_; rintro e w' ⟨rfl, rfl⟩))
    go_ret
    exact ⟨rfl, hbw1⟩

set_option maxHeartbeats 1600000 in
theorem ltake_w {v : Value} {xs : List UInt8} (x y n : Int) (w : World) (hv : Sl eb w v xs) (hx : x ≤ 9223372036854775807) (hn : n ≤ 9223372036854775807) :
    Calls Try.prog 4 #[v, .agg #[.int .i64 x, .int .i64 y], .int .i64 n] w fun e w' => e = .returned (.bool true) ∧ Below w.heap.size w w' := by
  have HV := Lib.hid hv
  have HF := Lib.hid (fun w' (hb : Below w.heap.size w w') => few_w v xs w' (HV.out.below hb (Nat.le_refl _)))
  obtain ⟨a, cap, rfl, hc, hcm, hna, hrd⟩ := hv
  clear hrd
  by_cases hm : xs.length ≤ 40
  · rcases hr : Ex.take xs x y n with ⟨k, ys, c⟩
    have H1 := Lib.hid (fun w' (hb : Below w.heap.size w w') => take_w x y n (HV.out.below hb (Nat.le_refl _)) (by omega) hx hn hr)
    have H2 := Lib.hid (fun w' (hb : Below w.heap.size w w') => rtake_w x y n (HV.out.below hb (Nat.le_refl _)) (by omega) hx hn hr)
    rw [decide_eq_true (by omega : (xs.length : Int) ≤ 40)] at HF
    clear hr HV
    go_enter Try.func4, Try.ntmps4
    go_wp2_with (first
      | (go_at_call 10; refine (awake_w _).mono ?_; rintro e w1 ⟨rfl, hb1⟩; obtain ⟨hbw1, hc10, hc11⟩ := box2 hb1)
      | (go_at_call 11; refine (HF.out w1 hbw1).mono ?_; rintro e w' ⟨rfl, rfl⟩)
      | (go_at_call 15; refine (H1.out w1 hbw1).mono ?_; rintro e w2 ⟨v1, v2, rfl, hs1, hs2, hb2⟩; obtain ⟨hbw2, hc20, hc21⟩ := box2 (hb1.trans (hb2.mono hb1.size)))
      | (go_at_call 16; refine (H2.out w2 hbw2).mono ?_; rintro e w3 ⟨u1, u2, rfl, ht1, ht2, hb3⟩; have hbw3 := hbw2.trans (hb3.mono hbw2.size))
      | (go_at_call 17; refine (sameInts_t (hs1.ints.below hb3 (Nat.le_refl _)) ht1.ints).mono ?_; rintro e w4 ⟨rfl, hb4⟩)
      | (go_at_call 14; refine (same_t (hs2.below (hb3.trans (hb4.mono hb3.size)) (Nat.le_refl _)) (ht2.below hb4 (Nat.le_refl _))).mono ?_; rintro e w' ⟨rfl, rfl⟩))
    go_ret
    exact ⟨rfl, hbw3.trans (hb4.mono hbw3.size)⟩
  · rw [decide_eq_false (by omega : ¬ (xs.length : Int) ≤ 40)] at HF
    clear HV
    go_enter Try.func4, Try.ntmps4
    go_wp2_with (first
      | (go_at_call 10; refine (awake_w _).mono ?_; rintro e w1 ⟨rfl, hb1⟩; obtain ⟨hbw1, hc10, hc11⟩ := box2 hb1)
      | (go_at_call 11; refine (HF.out w1 hbw1).mono ?_; rintro e w' ⟨rfl, rfl⟩))
    go_ret
    exact ⟨rfl, hbw1⟩

end Go.Proofs.Ytnmplcnnpkbomaa
