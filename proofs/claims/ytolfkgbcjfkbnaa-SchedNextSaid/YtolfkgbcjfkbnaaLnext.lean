/-
  SchedNext: the law's walk.
-/
import Derived.Test.YtolfkgbcjfkbnaaAwake
import Derived.Test.YtolfkgbcjfkbnaaPlain
namespace Go.Proofs.Ytolfkgbcjfkbnaa
open Go.RowKit

set_option maxHeartbeats 800000 in
theorem schedNext_w (v : Value) (xs : List Int) (bits : Int) (w : World) (hv : Sl (Value.int .i64) w v xs) (hb0 : 0 ≤ bits) (hb1 : bits < 4294967296) :
    Calls Try.prog 3 #[v, .int .u32 bits] w fun e w' => e = .returned (.bool true) ∧ Below w.heap.size w w' := by
  have hv' := hv
  obtain ⟨a, cap, rfl, h1, h2, h3, h4⟩ := hv'
  have HV := Lib.hid hv
  clear hv h3
  by_cases h60 : 60 < xs.length
  · have f1 : (60 : Int) < (xs.length : Int) := by omega
    go_enter Try.func3, Try.ntmps3
    go_wp2_with fail
    refine (awake_w _).mono ?_
    rintro e w1 ⟨rfl, hb1⟩
    go_wp2_with fail
    refine (awake_w _).mono ?_
    rintro e w2 ⟨rfl, hb2⟩
    go_wp2
    go_ret
    exact ⟨rfl, hb1.trans (hb2.mono hb1.size)⟩
  · have f1 : ¬ (60 : Int) < (xs.length : Int) := by omega
    obtain ⟨l, t, ok, hn⟩ : ∃ l t ok, Sq.next (Sq.ready bits) xs = (l, t, ok) := ⟨_, _, _, rfl⟩
    have hval : Sq.valid l = true := by have := Sq.next_valid (Sq.ready bits) xs; rw [hn] at this; exact this
    have hlen : l.length ≤ 1000 := by
      have := Sq.next_length (Sq.ready bits) xs
      rw [hn] at this
      simp only [] at this
      omega
    have HN := Lib.hid hn
    have HL := Lib.hid hval
    clear hn hval
    have q1 : (t == t) = true := by simp
    have q2 : (ok == ok) = true := by simp
    go_enter Try.func3, Try.ntmps3
    go_wp2_with fail
    refine (awake_w _).mono ?_
    rintro e w1 ⟨rfl, hbl1⟩
    have HV1 := HV.out.below hbl1 (Nat.le_refl _)
    go_wp2_with fail
    refine (by_w bits _).mono ?_
    rintro e w2 ⟨rfl, hc2, hlt2, hb2⟩
    have HV2 := HV1.below hb2 (Nat.le_refl _)
    have hbl2 := hbl1.trans (hb2.mono hbl1.size)
    clear hb2 hlt2 HV1
    go_wp2_with fail
    refine (next_sl HV2 (by omega) hb0 hb1 hc2 HN.out).mono ?_
    rintro e w3 ⟨v3, rfl, hs3, hb3⟩
    have HV3 := HV2.below hb3 (Nat.le_refl _)
    have hbl3 := hbl2.trans (hb3.mono hbl2.size)
    clear hb3 HV2 hc2
    go_wp2_with fail
    refine (rnext_sl HV3 (by omega) hb0 hb1 HN.out).mono ?_
    rintro e w4 ⟨v4, rfl, hs4, hb4⟩
    have hs34 := hs3.below hb4 (Nat.le_refl _)
    have hbl4 := hbl3.trans (hb4.mono hbl3.size)
    clear hb4 hs3
    go_wp2_with fail
    refine (sameInts_w _ _ l l _ hs34 hs4).mono ?_
    rintro e w5 ⟨rfl, hb5⟩
    have hs35 := hs34.below hb5 (Nat.le_refl _)
    have hbl5 := hbl4.trans (hb5.mono hbl4.size)
    clear hb5 hs4 hs34
    go_wp2_with fail
    refine (valid_sl hs35 hlen).mono ?_
    rintro e w6 ⟨rfl, rfl⟩
    rw [HL.out]
    go_wp2
    go_ret
    exact ⟨rfl, hbl5⟩
end Go.Proofs.Ytolfkgbcjfkbnaa
