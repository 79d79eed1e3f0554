/-
  The walk of extent.Alloc.
-/
import Derived.Test.YtnmplcnnpkbomaaRput
import Derived.Test.YtnmplcnnpkbomaaSpecB
namespace Go.Proofs.Ytnmplcnnpkbomaa
open Go.RowKit

theorem ret3i {v : Value} {a b c : Int} (h : a = b) : Ending.returned (.tuple #[.int .i64 a, v, .int .i64 c]) = .returned (.tuple #[.int .i64 b, v, .int .i64 c]) := by rw [h]

theorem below_of_grown {B g : Nat} {w w' : World} (hg : w.grownBy w' (some g)) (hB : B ≤ g) (hw : B ≤ w.heap.size) : Below B w w' := (Below.refl B w).grown hg hw fun k hk => by simp at hk; omega

set_option maxHeartbeats 1600000 in
theorem alloc_w {v : Value} {xs : List UInt8} {w : World} (x y n : Int) (hv : Sl eb w v xs) (hm : xs.length ≤ 1000) (hx : x ≤ 9223372036854775807) (hn : n ≤ 9223372036854775807) {k : Int} {ys : List UInt8} {c : Int} (hr : Ex.alloc xs x y n = (k, ys, c)) :
    Calls Try.prog 12 #[v, .int .i64 x, .int .i64 y, .int .i64 n] w fun e w' => ∃ v', e = .returned (.tuple #[.int .i64 k, v', .int .i64 c]) ∧ Sl eb w' v' ys ∧ Below w.heap.size w w' := by
  have HV := Lib.hid hv
  obtain ⟨a, cap, rfl, hc, hcm, hna, hrd⟩ := hv
  have HW := valid_w a cap xs.length x y w (by omega)
  cases hok : Ex.okR xs.length x y with
  | false =>
    rw [Ex.alloc_bad (.inl hok)] at hr
    simp only [Prod.mk.injEq] at hr
    obtain ⟨rfl, rfl, rfl⟩ := hr
    rw [hok] at HW
    clear hok
    go_enter Try.func12, Try.ntmps12
    go_wp2_with (go_at_call 32; refine HW.mono ?_; rintro e w' ⟨rfl, rfl⟩)
    go_ret3
    exact ⟨_, rfl, Sl.nil _ _, Below.refl _ _⟩
  | true =>
    rw [hok] at HW
    by_cases hn1 : n < 1
    · rw [Ex.alloc_bad (.inr hn1)] at hr
      simp only [Prod.mk.injEq] at hr
      obtain ⟨rfl, rfl, rfl⟩ := hr
      clear hok
      go_enter Try.func12, Try.ntmps12
      go_wp2_with (go_at_call 32; refine HW.mono ?_; rintro e w' ⟨rfl, rfl⟩)
      go_ret3
      exact ⟨_, rfl, Sl.nil _ _, Below.refl _ _⟩
    · obtain ⟨x, y, rfl, rfl, hxy, hy8⟩ := Ex.okR_nat hok
      obtain ⟨n, rfl⟩ := Int.eq_ofNat_of_zero_le (by omega : 0 ≤ n)
      have hn1' : 1 ≤ n := by omega
      rw [Ex.alloc_ok hok hn1'] at hr
      have HR := Lib.hid hr
      have HG := Lib.hid (fun i (hi : (i : Int) ≤ 9223372036854775807) => get_w a cap xs.length xs i w rfl (by omega) hrd hi)
      clear hok hr hrd
      go_enter Try.func12, Try.ntmps12
      go_wp2_with (go_at_call 32; refine HW.mono ?_; rintro e w' ⟨rfl, rfl⟩)
      go_loop [11, 12] (fun s11 s12 => ∃ i l : Nat, s12 = .int .i64 i ∧ s11 = .int .i64 l ∧ i ≤ y ∧ l < n ∧ l ≤ i ∧ Hid (Ex.Scan xs x n i l)) (fun _ i => y - (intOf i).toNat)
      case atStart => exact ⟨x, 0, rfl, rfl, hxy, by omega, by omega, Ex.Scan.start xs x n hn1'⟩
      case round =>
        obtain ⟨i, l, rfl, rfl, hiy, hln, hli, HS⟩ := hrel
        by_cases hlt : i < y
        · have HC := HG.out i (by omega)
          cases hb : Ex.getB xs i with
          | true =>
            rw [hb] at HC
            have HN := Lib.hid (Ex.Scan.set HS.out hb)
            clear hb
            go_wp2_with (go_at_call 18; refine HC.mono ?_; rintro e w' ⟨rfl, rfl⟩)
            go_round
            case rel => exact ⟨i + 1, 0, by go_num, rfl, by omega, by omega, by omega, HN⟩
            case measure => simp [intOf]; omega
          | false =>
            rw [hb] at HC
            by_cases hl : l + 1 = n
            · obtain ⟨h1, h2, h3⟩ := Ex.Scan.found HS.out hb hl hlt
              have hr := HR.out
              rw [h1] at hr
              simp only [Prod.mk.injEq] at hr
              obtain ⟨rfl, rfl, rfl⟩ := hr
              have hle : ((l : Int) + 1 == (n : Int)) = true := by simp; omega
              have hw1 : IntKind.i64.wrap ((i : Int) + 1 - (n : Int)) = ((i + 1 - n : Nat) : Int) := by rw [IntWalk.i64_in _ (by omega)]; omega
              have HC2 := Lib.hid (clone_w HV.out (by omega))
              have hsn : i + 1 - n + n = i + 1 := by omega
              clear hb h1 h2 h3 HG HR HS HV
              generalize hse : i + 1 - n = s at *
              have HSE := Lib.hid hse
              clear hse
              go_wp2_with (first | (go_at_call 18; refine HC.mono ?_; rintro e w' ⟨rfl, rfl⟩) | (go_at_call 33; refine HC2.out.mono ?_; rintro e w1 ⟨v1, rfl, ho1, hb1⟩))
              obtain ⟨g, c1, hv1⟩ := own_form ho1 (by omega)
              subst hv1
              have hg1 := ho1.lt g rfl
              have hB0 : Bm w1 w.heap.size g c1 (Ex.puts xs (List.range' s 0) true) := ho1
              clear HC HC2 ho1
              go_loopw [13] (fun s13 wr => ∃ q : Nat, s13 = .int .i64 q ∧ s ≤ q ∧ q ≤ i + 1 ∧ Bm wr w.heap.size g c1 (Ex.puts xs (List.range' s (q - s)) true) ∧ Below w.heap.size w wr) (fun s13 _ => i + 1 - (intOf s13).toNat)
              case atStart => exact ⟨s, rfl, Nat.le_refl _, by omega, by rw [Nat.sub_self]; exact hB0, hb1⟩
              case round =>
                obtain ⟨q, rfl, hsq, hqi, hbm, hbl⟩ := hrel
                by_cases hq : q ≤ i
                · have HP := put_w w.heap.size g c1 _ (q : Int) true wr hbm (by rw [Ex.length_puts]; omega) (by omega) (by rw [Ex.length_puts]; omega)
                  rw [Ex.length_puts, Int.toNat_natCast, ← Ex.puts_snoc] at HP
                  have hcat : List.range' s (q - s) ++ [q] = List.range' s (q + 1 - s) := by
                    rw [show q + 1 - s = (q - s) + 1 by omega, List.range'_concat, show s + 1 * (q - s) = q by omega]
                  rw [hcat] at HP
                  clear hbm hcat
                  go_wp2_with fail
                  refine HP.mono ?_
                  rintro e w2 ⟨rfl, hbm2, hgr⟩
                  have hbl2 := hbl.trans (below_of_grown hgr hg1.1 hbl.size)
                  clear hgr
                  go_wp2
                  go_roundw
                  case rel => exact ⟨q + 1, by go_num, by omega, by omega, hbm2, hbl2⟩
                  case measure => simp [intOf]; omega
                · have hqe : q - s = n := by omega
                  rw [hqe] at hbm
                  go_wp2
                  go_ret3
                  refine ⟨_, ret3i (by omega), ?_, hbl⟩
                  have hs := Sl.ofOwn (enc := eb) (xs := Ex.puts xs (List.range' s n) true) hbm
                  rw [Ex.length_puts] at hs
                  rw [HSE.out]
                  exact hs
            · have hle : ((l : Int) + 1 == (n : Int)) = false := by rw [beq_eq_false_iff_ne]; omega
              have HN := Lib.hid (Ex.Scan.more HS.out hb hl)
              clear hb hl
              go_wp2_with (go_at_call 18; refine HC.mono ?_; rintro e w' ⟨rfl, rfl⟩)
              go_round
              case rel => exact ⟨i + 1, l + 1, by go_num, by go_num, by omega, by have := HN.out.lt; omega, by omega, HN⟩
              case measure => simp [intOf]; omega
        · obtain rfl : i = y := by omega
          have hr := HR.out
          rw [Ex.Scan.done HS.out] at hr
          simp only [Prod.mk.injEq] at hr
          obtain ⟨rfl, rfl, rfl⟩ := hr
          go_wp2
          go_ret3
          exact ⟨_, rfl, Sl.nil _ _, Below.refl _ _⟩
end Go.Proofs.Ytnmplcnnpkbomaa
