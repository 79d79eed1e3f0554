/-
  The walks of the reference's clear and Alloc.
-/
import Derived.Test.YtnmplcnnpkbomaaAlloc
namespace Go.Proofs.Ytnmplcnnpkbomaa
open Go.RowKit

set_option maxHeartbeats 800000 in
theorem rclear_w (a : Option Addr) (cap : Nat) (xs : List UInt8) (s y n : Nat) (w : World) (hm : xs.length ≤ 1000) (hrd : Rd eb w a xs) (hsy : s ≤ y) (hy : y ≤ 8 * xs.length) (hn : n ≤ 9223372036854775807) :
    Calls Try.prog 36 #[.slice a xs.length cap, .int .i64 s, .int .i64 y, .int .i64 n] w fun e w' => e = .returned (.bool (decide (s + n ≤ y) && Ex.clr xs s n)) ∧ w = w' := by
  have HG := Lib.hid (fun i (hi : (i : Int) ≤ 9223372036854775807) => rget_w a cap xs.length xs i w rfl (by omega) hrd hi)
  clear hrd
  by_cases h : s + n ≤ y
  · have f1 : ¬ (y : Int) - (s : Int) < (n : Int) := by omega
    go_enter Try.func36, Try.ntmps36
    go_wp2
    go_loop [9] (fun s9 => ∃ i : Nat, s9 = .int .i64 i ∧ s ≤ i ∧ i ≤ s + n ∧ Hid (∀ j, s ≤ j → j < i → Ex.getB xs (j : Nat) = false)) (fun s9 => s + n - (intOf s9).toNat)
    case atStart => exact ⟨s, rfl, Nat.le_refl _, by omega, fun j h1 h2 => by omega⟩
    case round =>
      obtain ⟨i, rfl, h1, h2, HN⟩ := hrel
      by_cases hlt : i < s + n
      · have HC := HG.out i (by omega)
        cases hb : Ex.getB xs i with
        | true =>
          rw [hb] at HC
          have HB := Lib.hid hb
          clear hb
          go_wp2_with (go_at_call 25; refine HC.mono ?_; rintro e w' ⟨rfl, rfl⟩)
          go_ret
          exact ⟨ret_bool (by rw [Ex.clr_false h1 hlt HB.out]; simp), rfl⟩
        | false =>
          rw [hb] at HC
          have HB := Lib.hid hb
          clear hb
          go_wp2_with (go_at_call 25; refine HC.mono ?_; rintro e w' ⟨rfl, rfl⟩)
          go_round
          case rel => exact ⟨i + 1, by go_num, by omega, by omega, fun j h3 h4 => by by_cases e : j = i; { subst e; exact HB.out }; exact HN.out j h3 (by omega)⟩
          case measure => simp [intOf]; omega
      · obtain rfl : i = s + n := by omega
        go_wp2
        go_ret
        exact ⟨ret_bool (by rw [Ex.clr_iff.2 HN.out]), rfl⟩
  · have f1 : (y : Int) - (s : Int) < (n : Int) := by omega
    go_enter Try.func36, Try.ntmps36
    go_wp2
    go_ret
    exact ⟨ret_bool (by rw [decide_eq_false h]; rfl), rfl⟩

set_option maxHeartbeats 1600000 in
theorem ralloc_w {v : Value} {xs : List UInt8} {w : World} (x y n : Int) (hv : Sl eb w v xs) (hm : xs.length ≤ 1000) (hx : x ≤ 9223372036854775807) (hn : n ≤ 9223372036854775807) {k : Int} {ys : List UInt8} {c : Int} (hr : Ex.alloc xs x y n = (k, ys, c)) :
    Calls Try.prog 13 #[v, .int .i64 x, .int .i64 y, .int .i64 n] w fun e w' => ∃ v', e = .returned (.tuple #[.int .i64 k, v', .int .i64 c]) ∧ Sl eb w' v' ys ∧ Below w.heap.size w w' := by
  have HV := Lib.hid hv
  obtain ⟨a, cap, rfl, hc, hcm, hna, hrd⟩ := hv
  have HW := rvalid_w a cap xs.length x y w (by omega)
  cases hok : Ex.okR xs.length x y with
  | false =>
    rw [Ex.alloc_bad (.inl hok)] at hr
    simp only [Prod.mk.injEq] at hr
    obtain ⟨rfl, rfl, rfl⟩ := hr
    rw [hok] at HW
    clear hok
    go_enter Try.func13, Try.ntmps13
    go_wp2_with (go_at_call 35; refine HW.mono ?_; rintro e w' ⟨rfl, rfl⟩)
    go_ret3
    exact ⟨_, rfl, Sl.nil _ _, Below.refl _ _⟩
  | true =>
    rw [hok] at HW
    by_cases hn1 : n < 1
    · rw [Ex.alloc_bad (.inr hn1)] at hr
      simp only [Prod.mk.injEq] at hr
      obtain ⟨rfl, rfl, rfl⟩ := hr
      clear hok
      go_enter Try.func13, Try.ntmps13
      go_wp2_with (go_at_call 35; refine HW.mono ?_; rintro e w' ⟨rfl, rfl⟩)
      go_ret3
      exact ⟨_, rfl, Sl.nil _ _, Below.refl _ _⟩
    · obtain ⟨x, y, rfl, rfl, hxy, hy8⟩ := Ex.okR_nat hok
      obtain ⟨n, rfl⟩ := Int.eq_ofNat_of_zero_le (by omega : 0 ≤ n)
      have hn1' : 1 ≤ n := by omega
      rw [Ex.alloc_ok hok hn1'] at hr
      have HR := Lib.hid hr
      have HG := Lib.hid (fun s (hs : s ≤ y) => rclear_w a cap xs s y n w hm hrd hs hy8 (by omega))
      clear hok hr hrd
      go_enter Try.func13, Try.ntmps13
      go_wp2_with (go_at_call 35; refine HW.mono ?_; rintro e w' ⟨rfl, rfl⟩)
      go_loop [11] (fun s11 => ∃ i : Nat, s11 = .int .i64 i ∧ x ≤ i ∧ i ≤ y ∧ Hid (∀ j, x ≤ j → j < i → Ex.clr xs j n = false ∨ y < j + n)) (fun i => y - (intOf i).toNat)
      case atStart => exact ⟨x, rfl, Nat.le_refl _, hxy, fun j h1 h2 => by omega⟩
      case round =>
        obtain ⟨i, rfl, hxi, hiy, HS⟩ := hrel
        by_cases hlt : i < y
        · have HC := HG.out i (by omega)
          cases hb : (decide (i + n ≤ y) && Ex.clr xs i n) with
          | false =>
            rw [hb] at HC
            have HN : Hid (∀ j, x ≤ j → j < i + 1 → Ex.clr xs j n = false ∨ y < j + n) := by
              intro j h1 h2
              by_cases e : j = i
              · subst e
                simp at hb
                by_cases h : j + n ≤ y
                · exact .inl (hb h)
                · exact .inr (by omega)
              · exact HS.out j h1 (by omega)
            clear hb
            go_wp2_with (go_at_call 36; refine HC.mono ?_; rintro e w' ⟨rfl, rfl⟩)
            go_round
            case rel => exact ⟨i + 1, by go_num, by omega, by omega, HN⟩
            case measure => simp [intOf]; omega
          | true =>
            rw [hb] at HC
            simp at hb
            have hiny := hb.1
            have h1 := Ex.firstAt_some hn1' hxi hb.1 hb.2 HS.out
            have hr := HR.out
            rw [h1] at hr
            simp only [Prod.mk.injEq] at hr
            obtain ⟨rfl, rfl, rfl⟩ := hr
            clear hb h1 HG HR HS
            go_wp2_with (go_at_call 36; refine HC.mono ?_; rintro e w' ⟨rfl, rfl⟩)
            clear HC
            go_loopw [12, 13] (fun s12 s13 wr => ∃ q : Nat, s13 = .int .i64 q ∧ i ≤ q ∧ q ≤ i + n ∧ Sl eb wr s12 (Ex.puts xs (List.range' i (q - i)) true) ∧ Below w.heap.size w wr) (fun _ s13 _ => i + n - (intOf s13).toNat)
            case atStart => exact ⟨i, rfl, Nat.le_refl _, by omega, by rw [Nat.sub_self]; exact HV.out, Below.refl _ _⟩
            case round =>
              obtain ⟨q, rfl, hsq, hqi, hsl, hbl⟩ := hrel
              by_cases hq : q < i + n
              · have HP := rput_w (q : Int) true hsl (by rw [Ex.length_puts]; omega) (by omega) (by rw [Ex.length_puts]; omega)
                rw [Int.toNat_natCast, ← Ex.puts_snoc] at HP
                have hcat : List.range' i (q - i) ++ [q] = List.range' i (q + 1 - i) := by
                  rw [show q + 1 - i = (q - i) + 1 by omega, List.range'_concat, show i + 1 * (q - i) = q by omega]
                rw [hcat] at HP
                clear hcat hsl
                go_wp2_with fail
                refine HP.mono ?_
                rintro e w2 ⟨v2, rfl, ho2, hb2⟩
                have hs2 := Sl.ofOwn ho2
                have hbl2 := hbl.trans (hb2.mono hbl.size)
                clear hb2 ho2
                go_wp2
                go_roundw
                case rel => exact ⟨q + 1, by go_num, by omega, by omega, hs2, hbl2⟩
                case measure => simp [intOf]; omega
              · have hqe : q - i = n := by omega
                rw [hqe] at hsl
                go_wp2
                go_ret3
                exact ⟨_, rfl, hsl, hbl⟩
        · obtain rfl : i = y := by omega
          have hr := HR.out
          rw [Ex.firstAt_none (fun j h1 h2 => by
            by_cases hj : j < i
            · rcases HS.out j h1 hj with h | h
              · exact h
              · omega
            · omega)] at hr
          simp only [Prod.mk.injEq] at hr
          obtain ⟨rfl, rfl, rfl⟩ := hr
          go_wp2
          go_ret3
          exact ⟨_, rfl, Sl.nil _ _, Below.refl _ _⟩
end Go.Proofs.Ytnmplcnnpkbomaa
