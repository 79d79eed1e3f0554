/-
  The walk of ExtentBits.
-/
import Derived.Test.YtnmplcnnpkbomaaLalloc
import Derived.Test.YtnmplcnnpkbomaaCountB
import Derived.Test.YtnmplcnnpkbomaaSet
namespace Go.Proofs.Ytnmplcnnpkbomaa
open Go.RowKit

set_option maxRecDepth 20000 in
set_option maxHeartbeats 800000 in
theorem lbits_w {v : Value} {xs : List UInt8} (i x y : Int) (w : World) (hv : Sl eb w v xs) (hi : i ≤ 9223372036854775807) :
    Calls Try.prog 7 #[v, .int .i64 i, .agg #[.int .i64 x, .int .i64 y]] w fun e w' => e = .returned (.bool true) ∧ Below w.heap.size w w' := by
  have HV := Lib.hid hv
  have HF := Lib.hid (fun w' (hb : Below w.heap.size w w') => few_w v xs w' (HV.out.below hb (Nat.le_refl _)))
  obtain ⟨a, cap, rfl, hc, hcm, hna, hrd⟩ := hv
  by_cases hm : xs.length ≤ 40
  · rcases hr : Ex.clearR xs x y with ⟨m, c⟩
    have H1 : Hid (∀ w', Below w.heap.size w w' → Calls Try.prog 21 #[.slice a xs.length cap, .int .i64 x, .int .i64 y] w' fun e w'' => e = .returned (.tuple #[.int .i64 m, .int .i64 c]) ∧ w' = w'') := fun w' hb => by
      have := clear_w x y (HV.out.below hb (Nat.le_refl _)) (by omega)
      rw [hr] at this; exact this
    have H2 : Hid (∀ w', Below w.heap.size w w' → Calls Try.prog 22 #[.slice a xs.length cap, .int .i64 x, .int .i64 y] w' fun e w'' => e = .returned (.tuple #[.int .i64 m, .int .i64 c]) ∧ w' = w'') := fun w' hb => by
      have := rclr_w x y (HV.out.below hb (Nat.le_refl _)) (by omega)
      rw [hr] at this; exact this
    have H3 := Lib.hid (fun w' (hb : Below w.heap.size w w') (on : Bool) => set_w i on (HV.out.below hb (Nat.le_refl _)) (by omega) hi)
    have H4 := Lib.hid (fun w' (hb : Below w.heap.size w w') (on : Bool) => rset_w i on (HV.out.below hb (Nat.le_refl _)) (by omega) hi)
    have H5 := Lib.hid (fun w' (hb : Below w.heap.size w w') => count_w (HV.out.below hb (Nat.le_refl _)) (by omega))
    have H6 := Lib.hid (fun w' (hb : Below w.heap.size w w') => rcount_w (HV.out.below hb (Nat.le_refl _)) (by omega))
    have H7 := Lib.hid (fun w' (hb : Below w.heap.size w w') => get_w a cap xs.length xs i w' rfl (by omega) (hrd.below hb (Nat.le_refl _)) hi)
    have H8 := Lib.hid (fun w' (hb : Below w.heap.size w w') => rget_w a cap xs.length xs i w' rfl (by omega) (hrd.below hb (Nat.le_refl _)) hi)
    rw [decide_eq_true (by omega : (xs.length : Int) ≤ 40)] at HF
    generalize hN : Ex.countTo xs (8 * xs.length) = N at *
    generalize hB : Ex.getB xs i = B at *
    clear hr HV hrd hN hB
    go_enter Try.func7, Try.ntmps7
    go_wp2_with (first
      | (go_at_call 10; refine (awake_w _).mono ?_; rintro e w1 ⟨rfl, hb1⟩; obtain ⟨hbw1, hc10, hc11⟩ := box2 hb1)
      | (go_at_call 11; refine (HF.out w1 hbw1).mono ?_; rintro e w' ⟨rfl, rfl⟩)
      | (go_at_call 21; refine (H1.out w1 hbw1).mono ?_; rintro e w' ⟨rfl, rfl⟩)
      | (go_at_call 22; refine (H2.out w1 hbw1).mono ?_; rintro e w' ⟨rfl, rfl⟩))
    go_loopw [12, 13, 14, 15, 16, 42] (fun _ _ _ _ _ s42 wr => ∃ k : Nat, s42 = .int .i64 k ∧ k ≤ 2 ∧ Below (w1.alloc (.cells #[.bool false, .bool true] 4 (0, 0))).heap.size (w1.alloc (.cells #[.bool false, .bool true] 4 (0, 0))) wr) (fun _ _ _ _ _ s42 _ => 2 - (intOf s42).toNat)
    case atStart => exact ⟨0, rfl, by omega, Below.refl _ _⟩
    case round =>
      obtain ⟨k, rfl, hk, hbr⟩ := hrel
      obtain ⟨hb2, hcc0, hcc1⟩ := box2 hbr
      have hbwr := hbw1.trans (hb2.mono hbw1.size)
      by_cases hlt : k < 2
      · obtain ⟨on, hon⟩ : ∃ on : Bool, wr.cell? ⟨w1.heap.size, k, none⟩ = some (.bool on) := by
          rcases (by omega : k = 0 ∨ k = 1) with rfl | rfl
          · exact ⟨_, hcc0⟩
          · exact ⟨_, hcc1⟩
        have f1 : (0 : Int) ≤ (k : Int) := by omega
        have f2 : (k : Int) < 2 := by omega
        have HS := H3.out wr hbwr on
        have HT := Lib.hid (fun w' hb => H4.out w' hb on)
        rcases Ex.setR xs i on with ⟨ys, d⟩
        clear hcc0 hcc1 H1 H2 H3 H4 H5 H6 H7 H8 HF hb1 hc10 hc11
        go_wp2_with (first
          | (go_at_call 23; refine HS.mono ?_; rintro e w2 ⟨v1, rfl, hs1, hb3⟩; have hbw2 := hbwr.trans (hb3.mono hbwr.size))
          | (go_at_call 24; refine (HT.out w2 hbw2).mono ?_; rintro e w3 ⟨u1, rfl, ht1, hb4⟩)
          | (go_at_call 14; refine (same_t (hs1.below hb4 (Nat.le_refl _)) ht1).mono ?_; rintro e w' ⟨rfl, rfl⟩))
        have hbr3 := hbr.trans ((hb3.trans (hb4.mono hb3.size)).mono hbr.size)
        go_roundw
        case rel => exact ⟨k + 1, by go_num, by omega, hbr3⟩
        case measure => simp [intOf]; omega
      · clear H1 H2 H3 H4 HF hb1 hc10 hc11 hcc0 hcc1
        go_wp2_with (first
          | (go_at_call 18; refine (H7.out wr hbwr).mono ?_; rintro e w' ⟨rfl, rfl⟩)
          | (go_at_call 25; refine (H8.out wr hbwr).mono ?_; rintro e w' ⟨rfl, rfl⟩)
          | (go_at_call 26; refine (H5.out wr hbwr).mono ?_; rintro e w' ⟨rfl, rfl⟩)
          | (go_at_call 27; refine (H6.out wr hbwr).mono ?_; rintro e w' ⟨rfl, rfl⟩))
        go_ret
        exact ⟨rfl, hbwr⟩
  · rw [decide_eq_false (by omega : ¬ (xs.length : Int) ≤ 40)] at HF
    clear HV hrd
    go_enter Try.func7, Try.ntmps7
    go_wp2_with (first
      | (go_at_call 10; refine (awake_w _).mono ?_; rintro e w1 ⟨rfl, hb1⟩; obtain ⟨hbw1, hc10, hc11⟩ := box2 hb1)
      | (go_at_call 11; refine (HF.out w1 hbw1).mono ?_; rintro e w' ⟨rfl, rfl⟩))
    go_ret
    exact ⟨rfl, hbw1⟩
end Go.Proofs.Ytnmplcnnpkbomaa
