/-
  SchedKeeps and SchedRotates: the laws' walks.
-/
import Derived.Test.YtolfkgbcjfkbnaaAwake
import Derived.Test.YtolfkgbcjfkbnaaRem
import Derived.Test.YtolfkgbcjfkbnaaPlain
namespace Go.Proofs.Ytolfkgbcjfkbnaa
open Go.RowKit

set_option maxHeartbeats 1600000 in
theorem schedKeeps_w (v : Value) (xs : List Int) (bits t : Int) (w : World) (hv : Sl (Value.int .i64) w v xs) (hb0 : 0 ≤ bits) (hb1 : bits < 4294967296) :
    Calls Try.prog 9 #[v, .int .u32 bits, .int .i64 t] w fun e w' => e = .returned (.bool true) ∧ Below w.heap.size w w' := by
  have hv' := hv
  obtain ⟨a, cap, rfl, h1, h2, h3, h4⟩ := hv'
  have HV := Lib.hid hv
  clear hv h3
  by_cases h60 : 60 < xs.length
  · have f1 : (60 : Int) < (xs.length : Int) := by omega
    go_enter Try.func9, Try.ntmps9
    go_wp2_with fail
    refine (awake_w _).mono ?_
    rintro e w1 ⟨rfl, hb1⟩
    go_wp2_with fail
    refine (awake_w _).mono ?_
    rintro e w2 ⟨rfl, hb2⟩
    go_wp2
    go_ret
    exact ⟨rfl, hb1.trans (hb2.mono hb1.size)⟩
  · have f1 : ¬ (60 : Int) < (xs.length : Int) := by omega
    cases hval : Sq.valid xs with
    | false =>
      have HX := Lib.hid hval
      clear hval
      go_enter Try.func9, Try.ntmps9
      go_wp2_with fail
      refine (awake_w _).mono ?_
      rintro e w1 ⟨rfl, hb1⟩
      go_wp2_with fail
      refine (rvalid_sl (HV.out.below hb1 (Nat.le_refl _)) (by omega)).mono ?_
      rintro e w2 ⟨rfl, rfl⟩
      rw [HX.out]
      go_wp2_with fail
      refine (awake_w _).mono ?_
      rintro e w2 ⟨rfl, hb2⟩
      go_wp2
      go_ret
      exact ⟨rfl, hb1.trans (hb2.mono hb1.size)⟩
    | true =>
      rcases Sq.next_cases (r := Sq.ready bits) hval with ⟨en, _⟩ | ⟨k, hk, en, _, _⟩
      · have HX := Lib.hid hval
        have HN := Lib.hid en
        clear hval en
        go_enter Try.func9, Try.ntmps9
        go_wp2_with fail
        refine (awake_w _).mono ?_
        rintro e w1 ⟨rfl, hbl1⟩
        have HV1 := HV.out.below hbl1 (Nat.le_refl _)
        go_wp2_with fail
        refine (rvalid_sl HV1 (by omega)).mono ?_
        rintro e w1' ⟨rfl, rfl⟩
        rw [HX.out]
        go_wp2_with fail
        refine (by_w bits _).mono ?_
        rintro e w2 ⟨rfl, hc2, hlt2, hb2⟩
        have HV2 := HV1.below hb2 (Nat.le_refl _)
        have hbl2 := hbl1.trans (hb2.mono hbl1.size)
        clear hb2 hlt2 HV1
        go_wp2_with fail
        refine (next_sl HV2 (by omega) hb0 hb1 hc2 HN.out).mono ?_
        rintro e w3 ⟨v3, rfl, hs3, hb3⟩
        have HV3 := HV2.below hb3 (Nat.le_refl _)
        have hbl3 := hbl2.trans (hb3.mono hbl2.size)
        clear hb3 HV2 hc2
        go_wp2_with fail
        refine (sameInts_w _ _ xs xs _ hs3 HV3).mono ?_
        rintro e w6 ⟨rfl, hb6⟩
        have hbl6 := hbl3.trans (hb6.mono hbl3.size)
        clear hb6
        go_wp2
        go_ret
        exact ⟨rfl, hbl6⟩
      · have hpv := Sq.next_valid (Sq.ready bits) xs
        rw [en] at hpv
        have hr1 := Sq.remove_last hpv
        have hr2 := Sq.remove_at hval hk
        have hpl := Sq.next_length (Sq.ready bits) xs
        rw [en] at hpl
        simp only [] at hpl hpv
        generalize xs[k] = x at en hr1 hr2 hpl hpv
        generalize xs.take k ++ xs.drop (k + 1) = ys at en hr1 hr2 hpl hpv
        have HX := Lib.hid hval
        have HN := Lib.hid en
        have HR1 := Lib.hid hr1
        have HR2 := Lib.hid hr2
        have HPL := Lib.hid hpl
        have HAV := Lib.hid (Sq.add_valid xs t)
        obtain ⟨la, ca, hna⟩ : ∃ l c, Sq.add xs t = (l, c) := ⟨_, _, rfl⟩
        have hca : ca = 0 → la = xs ++ [t] := fun h0 => Sq.add_ok (h0 ▸ hna)
        have hll := Sq.add_length xs t
        rw [hna] at hll
        simp only [] at hll
        have HNA := Lib.hid hna
        clear hval en hr1 hr2 hpv hpl hna
        go_enter Try.func9, Try.ntmps9
        go_wp2_with fail
        refine (awake_w _).mono ?_
        rintro e w1 ⟨rfl, hbl1⟩
        have HV1 := HV.out.below hbl1 (Nat.le_refl _)
        go_wp2_with fail
        refine (rvalid_sl HV1 (by omega)).mono ?_
        rintro e w1' ⟨rfl, rfl⟩
        rw [HX.out]
        go_wp2_with fail
        refine (by_w bits _).mono ?_
        rintro e w2 ⟨rfl, hc2, hlt2, hb2⟩
        have HV2 := HV1.below hb2 (Nat.le_refl _)
        have hbl2 := hbl1.trans (hb2.mono hbl1.size)
        clear hb2 hlt2 HV1
        go_wp2_with fail
        refine (next_sl HV2 (by omega) hb0 hb1 hc2 HN.out).mono ?_
        rintro e w3 ⟨v3, rfl, hs3, hb3⟩
        have HV3 := HV2.below hb3 (Nat.le_refl _)
        have hbl3 := hbl2.trans (hb3.mono hbl2.size)
        clear hb3 HV2 hc2
        go_wp2_with fail
        refine (remove_w x hs3 (by have := HPL.out; omega) HR1.out).mono ?_
        rintro e w4 ⟨v4, rfl, hs4, hb4⟩
        have HV4 := HV3.below hb4 (Nat.le_refl _)
        have hbl4 := hbl3.trans (hb4.mono hbl3.size)
        clear hb4 HV3 hs3
        go_wp2_with fail
        refine (rremove_w x HV4 (by omega) HR2.out).mono ?_
        rintro e w5 ⟨v5, rfl, hs5, hb5⟩
        have HV5 := HV4.below hb5 (Nat.le_refl _)
        have hs45 := hs4.below hb5 (Nat.le_refl _)
        have hbl5 := hbl4.trans (hb5.mono hbl4.size)
        clear hb5 HV4 hs4
        go_wp2_with fail
        refine (sameInts_w _ _ ys ys _ hs45 hs5).mono ?_
        rintro e w6 ⟨rfl, hb6⟩
        have HV6 := HV5.below hb6 (Nat.le_refl _)
        have hbl6 := hbl5.trans (hb6.mono hbl5.size)
        clear hb6 HV5 hs45 hs5
        go_wp2_with fail
        refine (add_w t HV6 (by omega) HNA.out).mono ?_
        rintro e w7 ⟨v7, rfl, hs7, hb7⟩
        have HV7 := HV6.below hb7 (Nat.le_refl _)
        have hbl7 := hbl6.trans (hb7.mono hbl6.size)
        clear hb7 HV6
        by_cases hc0 : ca = 0
        · have hla := hca hc0
          subst hc0
          subst hla
          have HR3 := Sq.remove_last (ys := xs) (t := t) (by have := HAV.out; rw [HNA.out] at this; exact this)
          clear hca HAV HNA
          have HR3 := Lib.hid HR3
          go_wp2_with fail
          refine (remove_w t hs7 (by omega) HR3.out).mono ?_
          rintro e w8 ⟨v8, rfl, hs8, hb8⟩
          have HV8 := HV7.below hb8 (Nat.le_refl _)
          have hbl8 := hbl7.trans (hb8.mono hbl7.size)
          clear hb8 HV7 hs7
          go_wp2_with fail
          refine (sameInts_w _ _ xs xs _ hs8 HV8).mono ?_
          rintro e w9 ⟨rfl, hb9⟩
          have hbl9 := hbl8.trans (hb9.mono hbl8.size)
          go_wp2
          go_ret
          exact ⟨rfl, hbl9⟩
        · have hc1 : (ca != 0) = true := by simp [hc0]
          clear hc0 hca
          go_wp2
          go_ret
          exact ⟨rfl, hbl7⟩

set_option maxHeartbeats 1600000 in
theorem schedRotates_w (v : Value) (xs : List Int) (w : World) (hv : Sl (Value.int .i64) w v xs) :
    Calls Try.prog 7 #[v] w fun e w' => e = .returned (.bool true) ∧ Below w.heap.size w w' := by
  have hv' := hv
  obtain ⟨a, cap, rfl, h1, h2, h3, h4⟩ := hv'
  have HV := Lib.hid hv
  have HR := Lib.hid h4
  clear hv h3 h4
  by_cases h60 : 60 < xs.length
  · have f1 : (60 : Int) < (xs.length : Int) := by omega
    go_enter Try.func7, Try.ntmps7
    go_wp2_with fail
    refine (awake_w _).mono ?_
    rintro e w1 ⟨rfl, hb1⟩
    go_wp2_with fail
    refine (awake_w _).mono ?_
    rintro e w2 ⟨rfl, hb2⟩
    go_wp2
    go_ret
    exact ⟨rfl, hb1.trans (hb2.mono hb1.size)⟩
  · have f1 : ¬ (60 : Int) < (xs.length : Int) := by omega
    cases hval : Sq.valid xs with
    | false =>
      have HX := Lib.hid hval
      clear hval
      go_enter Try.func7, Try.ntmps7
      go_wp2_with fail
      refine (awake_w _).mono ?_
      rintro e w1 ⟨rfl, hb1⟩
      go_wp2_with fail
      refine (rvalid_sl (HV.out.below hb1 (Nat.le_refl _)) (by omega)).mono ?_
      rintro e w2 ⟨rfl, rfl⟩
      rw [HX.out]
      go_wp2_with fail
      refine (awake_w _).mono ?_
      rintro e w2 ⟨rfl, hb2⟩
      go_wp2
      go_ret
      exact ⟨rfl, hb1.trans (hb2.mono hb1.size)⟩
    | true =>
      have HX := Lib.hid hval
      clear hval
      go_enter Try.func7, Try.ntmps7
      go_wp2_with fail
      refine (awake_w _).mono ?_
      rintro e w1 ⟨rfl, hbl1⟩
      have HV1 := HV.out.below hbl1 (Nat.le_refl _)
      go_wp2_with fail
      refine (rvalid_sl HV1 (by omega)).mono ?_
      rintro e w1' ⟨rfl, rfl⟩
      rw [HX.out]
      go_wp2_with fail
      go_loopw [3, 24] (fun nv i wr => ∃ k : Nat, ∃ l, k ≤ xs.length ∧ i = .int .i64 k ∧ Sl (Value.int .i64) wr nv l ∧ Sq.valid l = true ∧ l = xs.drop k ++ xs.take k ∧ Below w.heap.size w wr) (fun _ i _ => xs.length - (intOf i).toNat)
      case atStart => exact ⟨0, xs, Nat.zero_le _, rfl, HV1, HX.out, by simp, hbl1⟩
      case round =>
        obtain ⟨k, l, hk, rfl, hs, hval, hl, hbl⟩ := hrel
        have HL := Lib.hid hl
        have HVL := Lib.hid hval
        have hll0 : l.length = xs.length := by rw [hl, List.length_append, List.length_drop, List.length_take]; omega
        have HLL := Lib.hid hll0
        have hsr := hs
        obtain ⟨a1, cap1, rfl, _, _, _, _⟩ := hsr
        clear hl hval hll0
        by_cases hlt : k < xs.length
        · obtain ⟨l', e1, e2, e3, e4⟩ := Sq.next_turn hlt HVL.out HL.out
          have E1 := Lib.hid e1
          have E2 := Lib.hid e2
          have E3 := Lib.hid e3
          clear e1 e2 e3 e4
          obtain ⟨b, off, rfl, hbb, hcell⟩ := HR.out.form (by omega)
          have hck := hcell k hlt
          clear hcell
          have q1 : (xs[k] != xs[k]) = false := by simp
          go_wp2_with fail
          refine (by_w 4294967295 _).mono ?_
          rintro e w2 ⟨rfl, hc2, hlt2, hb2⟩
          have hs2 := hs.below hb2 (Nat.le_refl _)
          have hbl2 := hbl.trans (hb2.mono hbl.size)
          clear hb2 hlt2
          go_wp2_with fail
          refine (next_sl hs2 (by have := HLL.out; omega) (by omega) (by omega) hc2 E1.out).mono ?_
          rintro e w3 ⟨v3, rfl, hs3, hb3⟩
          have hbl3 := hbl2.trans (hb3.mono hbl2.size)
          clear hb3 hs2 hc2 hs
          have hck3 : w3.cell? ⟨b, off + k, none⟩ = some (.int .i64 xs[k]) := by rw [hbl3.cell (p := ⟨b, off + k, none⟩) hbb]; exact hck
          go_wp2
          go_roundw
          case rel => exact ⟨k + 1, l', by omega, by go_num, hs3, E2.out, E3.out, hbl3⟩
          case measure => simp [intOf]; omega
        · have hlx : l = xs := by rw [HL.out, List.drop_eq_nil_of_le (by omega), List.take_of_length_le (by omega)]; rfl
          subst hlx
          have HVW := HV.out.below hbl (Nat.le_refl _)
          go_wp2_with fail
          refine (sameInts_w _ _ _ _ _ hs HVW).mono ?_
          rintro e w9 ⟨rfl, hb9⟩
          have hbl9 := hbl.trans (hb9.mono hbl.size)
          go_wp2
          go_ret
          exact ⟨ret_bool (by simp), hbl9⟩
end Go.Proofs.Ytolfkgbcjfkbnaa
