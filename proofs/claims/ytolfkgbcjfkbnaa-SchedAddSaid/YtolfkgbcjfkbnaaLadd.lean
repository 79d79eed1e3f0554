/-
  SchedAdd and SchedKeeps: the laws' walks.
-/
import Derived.Test.YtolfkgbcjfkbnaaAwake
import Derived.Test.YtolfkgbcjfkbnaaRem
import Derived.Test.YtolfkgbcjfkbnaaPlain
namespace Go.Proofs.Ytolfkgbcjfkbnaa
open Go.RowKit

set_option maxHeartbeats 800000 in
theorem schedAdd_w (v : Value) (xs : List Int) (t : Int) (w : World) (hv : Sl (Value.int .i64) w v xs) :
    Calls Try.prog 8 #[v, .int .i64 t] w fun e w' => e = .returned (.bool true) ∧ Below w.heap.size w w' := by
  have hv' := hv
  obtain ⟨a, cap, rfl, h1, h2, h3, h4⟩ := hv'
  have HV := Lib.hid hv
  clear hv h3
  by_cases h60 : 60 < xs.length
  · have f1 : (60 : Int) < (xs.length : Int) := by omega
    go_enter Try.func8, Try.ntmps8
    go_wp2_with fail
    refine (awake_w _).mono ?_
    rintro e w1 ⟨rfl, hb1⟩
    go_wp2_with fail
    refine (awake_w _).mono ?_
    rintro e w2 ⟨rfl, hb2⟩
    go_wp2
    go_ret
    exact ⟨rfl, hb1.trans (hb2.mono hb1.size)⟩
  · have f1 : ¬ (60 : Int) < (xs.length : Int) := by omega
    obtain ⟨la, ca, hna⟩ : ∃ l c, Sq.add xs t = (l, c) := ⟨_, _, rfl⟩
    obtain ⟨lr, cr, hnr⟩ : ∃ l c, Sq.remove xs t = (l, c) := ⟨_, _, rfl⟩
    have va : Sq.valid la = true := by have := Sq.add_valid xs t; rw [hna] at this; exact this
    have vr : Sq.valid lr = true := by have := Sq.remove_valid xs t; rw [hnr] at this; exact this
    have na : la.length ≤ 1000 := by have := Sq.add_length xs t; rw [hna] at this; simp only [] at this; omega
    have nr : lr.length ≤ 1000 := by have := Sq.remove_length xs t; rw [hnr] at this; simp only [] at this; omega
    have HNA := Lib.hid hna
    have HNR := Lib.hid hnr
    have HVA := Lib.hid va
    have HVR := Lib.hid vr
    clear hna hnr va vr
    have q1 : (ca == ca) = true := by simp
    have q2 : (cr == cr) = true := by simp
    obtain ⟨vx, hvx⟩ : ∃ b, b = Sq.valid xs := ⟨_, rfl⟩
    have HVX := Lib.hid hvx
    clear hvx
    have q3 : (vx == vx) = true := by simp
    go_enter Try.func8, Try.ntmps8
    go_wp2_with fail
    refine (awake_w _).mono ?_
    rintro e w1 ⟨rfl, hbl1⟩
    have HV1 := HV.out.below hbl1 (Nat.le_refl _)
    go_wp2_with fail
    refine (add_w t HV1 (by omega) HNA.out).mono ?_
    rintro e w2 ⟨v2, rfl, sa2, hb2⟩
    have HV2 := HV1.below hb2 (Nat.le_refl _)
    have hbl2 := hbl1.trans (hb2.mono hbl1.size)
    clear hb2 HV1
    go_wp2_with fail
    refine (radd_w t HV2 (by omega) HNA.out).mono ?_
    rintro e w3 ⟨v3, rfl, ra3, hb3⟩
    have HV3 := HV2.below hb3 (Nat.le_refl _)
    have sa3 := sa2.below hb3 (Nat.le_refl _)
    have hbl3 := hbl2.trans (hb3.mono hbl2.size)
    clear hb3 HV2 sa2
    go_wp2_with fail
    refine (remove_w t HV3 (by omega) HNR.out).mono ?_
    rintro e w4 ⟨v4, rfl, sr4, hb4⟩
    have HV4 := HV3.below hb4 (Nat.le_refl _)
    have sa4 := sa3.below hb4 (Nat.le_refl _)
    have ra4 := ra3.below hb4 (Nat.le_refl _)
    have hbl4 := hbl3.trans (hb4.mono hbl3.size)
    clear hb4 HV3 sa3 ra3
    go_wp2_with fail
    refine (rremove_w t HV4 (by omega) HNR.out).mono ?_
    rintro e w5 ⟨v5, rfl, rr5, hb5⟩
    have HV5 := HV4.below hb5 (Nat.le_refl _)
    have sa5 := sa4.below hb5 (Nat.le_refl _)
    have ra5 := ra4.below hb5 (Nat.le_refl _)
    have sr5 := sr4.below hb5 (Nat.le_refl _)
    have hbl5 := hbl4.trans (hb5.mono hbl4.size)
    clear hb5 HV4 sa4 ra4 sr4
    go_wp2_with fail
    refine (sameInts_w _ _ la la _ sa5 ra5).mono ?_
    rintro e w6 ⟨rfl, hb6⟩
    have HV6 := HV5.below hb6 (Nat.le_refl _)
    have sa6 := sa5.below hb6 (Nat.le_refl _)
    have sr6 := sr5.below hb6 (Nat.le_refl _)
    have rr6 := rr5.below hb6 (Nat.le_refl _)
    have hbl6 := hbl5.trans (hb6.mono hbl5.size)
    clear hb6 HV5 sa5 ra5 sr5 rr5
    go_wp2_with fail
    refine (sameInts_w _ _ lr lr _ sr6 rr6).mono ?_
    rintro e w7 ⟨rfl, hb7⟩
    have HV7 := HV6.below hb7 (Nat.le_refl _)
    have sa7 := sa6.below hb7 (Nat.le_refl _)
    have sr7 := sr6.below hb7 (Nat.le_refl _)
    have hbl7 := hbl6.trans (hb7.mono hbl6.size)
    clear hb7 HV6 sa6 sr6 rr6
    go_wp2_with fail
    refine (valid_sl HV7 (by omega)).mono ?_
    rintro e w8 ⟨rfl, rfl⟩
    rw [← HVX.out]
    go_wp2_with fail
    refine (rvalid_sl HV7 (by omega)).mono ?_
    rintro e w9 ⟨rfl, rfl⟩
    rw [← HVX.out]
    go_wp2_with fail
    refine (valid_sl sa7 na).mono ?_
    rintro e w10 ⟨rfl, rfl⟩
    rw [HVA.out]
    go_wp2_with fail
    refine (valid_sl sr7 nr).mono ?_
    rintro e w11 ⟨rfl, rfl⟩
    rw [HVR.out]
    go_wp2
    go_ret
    exact ⟨rfl, hbl7⟩
end Go.Proofs.Ytolfkgbcjfkbnaa
