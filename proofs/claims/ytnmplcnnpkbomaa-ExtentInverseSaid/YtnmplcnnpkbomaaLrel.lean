/-
  The walk of ExtentRelease.
-/
import Derived.Test.YtnmplcnnpkbomaaRrel
namespace Go.Proofs.Ytnmplcnnpkbomaa
open Go.RowKit

set_option maxHeartbeats 1600000 in
theorem lrel_w {v vl : Value} {xs : List UInt8} {ls : List Int} (w : World) (hv : Sl eb w v xs) (hl : Sl (Value.int .i64) w vl ls) (hlw : ∀ n ∈ ls, n ≤ 9223372036854775807) :
    Calls Try.prog 6 #[v, vl] w fun e w' => e = .returned (.bool true) ∧ Below w.heap.size w w' := by
  have HV := Lib.hid hv
  have HL := Lib.hid hl
  have HF := Lib.hid (fun w' (hb : Below w.heap.size w w') => few_w v xs w' (HV.out.below hb (Nat.le_refl _)))
  obtain ⟨a, cap, rfl, hc, hcm, hna, hrd⟩ := hv
  obtain ⟨al, cl, rfl, hlc, hlcm, hlna, hlrd⟩ := hl
  clear hrd hlrd
  by_cases hm : xs.length ≤ 40
  · rw [decide_eq_true (by omega : (xs.length : Int) ≤ 40)] at HF
    by_cases hlm : ls.length ≤ 100
    · rcases hr : Ex.release xs ls with ⟨ys, c⟩
      have H1 := Lib.hid (fun w' (hb : Below w.heap.size w w') => rel_w (HV.out.below hb (Nat.le_refl _)) (HL.out.below hb (Nat.le_refl _)) (by omega) (by omega) hlw hr)
      have H2 := Lib.hid (fun w' (hb : Below w.heap.size w w') => rrel_w (HV.out.below hb (Nat.le_refl _)) (HL.out.below hb (Nat.le_refl _)) (by omega) (by omega) hlw hr)
      clear hr HV HL
      go_enter Try.func6, Try.ntmps6
      go_wp2_with (first
        | (go_at_call 10; refine (awake_w _).mono ?_; rintro e w1 ⟨rfl, hb1⟩)
        | (go_at_call 11; refine (HF.out w1 hb1).mono ?_; rintro e w' ⟨rfl, rfl⟩)
        | (go_at_call 19; refine (H1.out w1 hb1).mono ?_; rintro e w2 ⟨v1, rfl, hs1, hb2⟩; have hbw2 := hb1.trans (hb2.mono hb1.size))
        | (go_at_call 20; refine (H2.out w2 hbw2).mono ?_; rintro e w3 ⟨u1, rfl, ht1, hb3⟩; have hbw3 := hbw2.trans (hb3.mono hbw2.size))
        | (go_at_call 14; refine (same_t (hs1.below hb3 (Nat.le_refl _)) ht1).mono ?_; rintro e w' ⟨rfl, rfl⟩))
      go_ret
      exact ⟨rfl, hbw3⟩
    · have f1 : (100 : Int) < (ls.length : Int) := by omega
      clear HV HL
      go_enter Try.func6, Try.ntmps6
      go_wp2_with (first
        | (go_at_call 10; refine (awake_w _).mono ?_; rintro e w1 ⟨rfl, hb1⟩)
        | (go_at_call 11; refine (HF.out w1 hb1).mono ?_; rintro e w' ⟨rfl, rfl⟩))
      go_ret
      exact ⟨rfl, hb1⟩
  · rw [decide_eq_false (by omega : ¬ (xs.length : Int) ≤ 40)] at HF
    clear HV HL
    go_enter Try.func6, Try.ntmps6
    go_wp2_with (first
      | (go_at_call 10; refine (awake_w _).mono ?_; rintro e w1 ⟨rfl, hb1⟩)
      | (go_at_call 11; refine (HF.out w1 hb1).mono ?_; rintro e w' ⟨rfl, rfl⟩))
    go_ret
    exact ⟨rfl, hb1⟩
end Go.Proofs.Ytnmplcnnpkbomaa
