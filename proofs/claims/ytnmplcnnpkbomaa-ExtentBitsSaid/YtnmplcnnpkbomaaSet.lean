/-
  The walks of both Sets.
-/
import Derived.Test.YtnmplcnnpkbomaaClear
import Derived.Test.YtnmplcnnpkbomaaRput
import Derived.Test.YtnmplcnnpkbomaaTake
namespace Go.Proofs.Ytnmplcnnpkbomaa
open Go.RowKit

set_option maxHeartbeats 800000 in
theorem set_w {v : Value} {xs : List UInt8} {w : World} (i : Int) (on : Bool) (hv : Sl eb w v xs) (hm : xs.length ≤ 1000) (hi : i ≤ 9223372036854775807) :
    Calls Try.prog 23 #[v, .int .i64 i, .bool on] w fun e w' => ∃ v', e = .returned (.tuple #[v', .int .i64 (Ex.setR xs i on).2]) ∧ Sl eb w' v' (Ex.setR xs i on).1 ∧ Below w.heap.size w w' := by
  have HC2 := Lib.hid (clone_w hv (by omega))
  obtain ⟨a, cap, rfl, hc, hcm, hna, hrd⟩ := hv
  clear hrd
  by_cases h0 : i < 0
  · have hs : Ex.setR xs i on = ([], 2) := by unfold Ex.setR; rw [if_neg (by omega)]
    rw [hs]
    clear HC2 hs
    go_enter Try.func23, Try.ntmps23
    go_wp2_with fail
    go_ret2
    exact ⟨_, rfl, Sl.nil _ _, Below.refl _ _⟩
  · obtain ⟨j, rfl⟩ := Int.eq_ofNat_of_zero_le (by omega : 0 ≤ i)
    by_cases h1 : (j : Int) / 8 < (xs.length : Int)
    · have hs : Ex.setR xs (j : Int) on = (Ex.putB xs j on, 0) := by unfold Ex.setR; rw [if_pos (by omega), Int.toNat_natCast]
      have hj : j < 8 * xs.length := by omega
      rw [hs]
      clear hs
      go_enter Try.func23, Try.ntmps23
      go_wp2_with (go_at_call 33; refine HC2.out.mono ?_; rintro e w1 ⟨v1, rfl, ho1, hb1⟩; obtain ⟨g, c1, hv1⟩ := own_form ho1 (by omega); subst hv1)
      have hbm : Bm w1 w.heap.size g c1 xs := ho1
      have HP := put_w w.heap.size g c1 xs (j : Int) on w1 hbm (by omega) (by omega) (by omega)
      rw [Int.toNat_natCast] at HP
      refine HP.mono ?_
      rintro e w2 ⟨rfl, hbm2, hgr⟩
      have hbl2 := hb1.trans (below_of_grown hgr (ho1.lt g rfl).1 hb1.size)
      have hS := Sl.ofOwn (enc := eb) (xs := Ex.putB xs j on) hbm2
      rw [Ex.length_putB] at hS
      clear HP hbm hbm2 hgr HC2 ho1 hb1
      go_wp2_with fail
      go_ret2
      exact ⟨_, rfl, hS, hbl2⟩
    · have hs : Ex.setR xs (j : Int) on = ([], 2) := by unfold Ex.setR; rw [if_neg (by omega)]
      have h1' : (xs.length : Int) ≤ (j : Int) / 8 := by omega
      rw [hs]
      clear HC2 hs
      go_enter Try.func23, Try.ntmps23
      go_wp2_with fail
      go_ret2
      exact ⟨_, rfl, Sl.nil _ _, Below.refl _ _⟩

set_option maxHeartbeats 800000 in
theorem rset_w {v : Value} {xs : List UInt8} {w : World} (i : Int) (on : Bool) (hv : Sl eb w v xs) (hm : xs.length ≤ 1000) (hi : i ≤ 9223372036854775807) :
    Calls Try.prog 24 #[v, .int .i64 i, .bool on] w fun e w' => ∃ v', e = .returned (.tuple #[v', .int .i64 (Ex.setR xs i on).2]) ∧ Sl eb w' v' (Ex.setR xs i on).1 ∧ Below w.heap.size w w' := by
  have HV := Lib.hid hv
  obtain ⟨a, cap, rfl, hc, hcm, hna, hrd⟩ := hv
  clear hrd
  by_cases h0 : i < 0
  · have hs : Ex.setR xs i on = ([], 2) := by unfold Ex.setR; rw [if_neg (by omega)]
    rw [hs]
    clear HV hs
    go_enter Try.func24, Try.ntmps24
    go_wp2_with fail
    go_ret2
    exact ⟨_, rfl, Sl.nil _ _, Below.refl _ _⟩
  · obtain ⟨j, rfl⟩ := Int.eq_ofNat_of_zero_le (by omega : 0 ≤ i)
    by_cases h1 : (j : Int) / 8 < (xs.length : Int)
    · have hs : Ex.setR xs (j : Int) on = (Ex.putB xs j on, 0) := by unfold Ex.setR; rw [if_pos (by omega), Int.toNat_natCast]
      have HP := Lib.hid (rput_w (j : Int) on HV.out (by omega) (by omega) (by omega))
      rw [hs]
      rw [Int.toNat_natCast] at HP
      clear hs
      go_enter Try.func24, Try.ntmps24
      go_wp2_with (go_at_call 37; refine HP.out.mono ?_; rintro e w1 ⟨v1, rfl, ho1, hb1⟩)
      go_ret2
      exact ⟨_, rfl, Sl.ofOwn ho1, hb1⟩
    · have hs : Ex.setR xs (j : Int) on = ([], 2) := by unfold Ex.setR; rw [if_neg (by omega)]
      have h1' : (xs.length : Int) ≤ (j : Int) / 8 := by omega
      rw [hs]
      clear HV hs
      go_enter Try.func24, Try.ntmps24
      go_wp2_with fail
      go_ret2
      exact ⟨_, rfl, Sl.nil _ _, Below.refl _ _⟩
end Go.Proofs.Ytnmplcnnpkbomaa
