/-
  The walk of ExtentFirst.
-/
import Derived.Test.YtnmplcnnpkbomaaLalloc
namespace Ex
theorem firstAt_facts {xs : List UInt8} {x y n k : Nat} (h : firstAt xs x y n = some k) : x ≤ k ∧ k + n ≤ y ∧ clr xs k n = true ∧ ∀ j, x ≤ j → j < k → clr xs j n = false := by
  unfold firstAt at h
  rw [List.find?_range_eq_some] at h
  obtain ⟨h1, _, h3⟩ := h
  simp at h1
  refine ⟨h1.1, h1.2.1, h1.2.2, fun j hx hj => ?_⟩
  have := h3 j hj
  simp at this
  rcases this with h | h | h
  · omega
  · have := h1.2.1; omega
  · exact h

theorem cl_run {xs : List UInt8} {k n : Nat} (h : clr xs k n = true) : cl xs k (k + n) = List.range' k n := by
  unfold cl
  rw [show k + n - k = n by omega]
  rw [List.filter_eq_self]
  intro j hj
  rw [List.mem_range'_1] at hj
  rw [clr_iff.1 h j hj.1 hj.2]
  rfl

/-- What Alloc's success tells. -/
theorem alloc_some {xs : List UInt8} {x y n : Int} {a : Int} {ys : List UInt8} {c : Int} (h : alloc xs x y n = (a, ys, c)) :
    (c ≠ 0 ∧ a = 0 ∧ ys = [] ∧ (c = 1 ∨ c = 13)) ∨
    ∃ i j m k : Nat, x = i ∧ y = j ∧ n = m ∧ a = k ∧ c = 0 ∧ 1 ≤ m ∧ i ≤ k ∧ k + m ≤ j ∧ j ≤ 8 * xs.length ∧ ys.length = xs.length ∧ (∀ q : Nat, getB ys (q : Nat) = if k ≤ q ∧ q < k + m then true else getB xs (q : Nat)) ∧
      (∀ q, k ≤ q → q < k + m → getB xs (q : Nat) = false) ∧ (∀ q, i ≤ q → q < k → clr xs q m = false) ∧ ∃ l zs, take xs x y n = (l, zs, 0) := by
  by_cases hb : okR xs.length x y = false ∨ n < 1
  · rw [alloc_bad hb] at h
    simp only [Prod.mk.injEq] at h
    obtain ⟨rfl, rfl, rfl⟩ := h
    exact .inl ⟨by decide, rfl, rfl, .inl rfl⟩
  · have hok : okR xs.length x y = true := by
      cases hh : okR xs.length x y with
      | true => rfl
      | false => exact absurd (.inl hh) hb
    have hn : ¬ n < 1 := fun hh => hb (.inr hh)
    obtain ⟨i, j, rfl, rfl, hij, hj8⟩ := okR_nat hok
    obtain ⟨m, rfl⟩ := Int.eq_ofNat_of_zero_le (by omega : 0 ≤ n)
    have hm : 1 ≤ m := by omega
    rw [alloc_ok hok hm] at h
    cases hf : firstAt xs i j m with
    | none =>
      rw [hf] at h
      simp only [Prod.mk.injEq] at h
      obtain ⟨rfl, rfl, rfl⟩ := h
      exact .inl ⟨by decide, rfl, rfl, .inr rfl⟩
    | some k =>
      rw [hf] at h
      simp only [Prod.mk.injEq] at h
      obtain ⟨rfl, rfl, rfl⟩ := h
      obtain ⟨h1, h2, h3, h4⟩ := firstAt_facts hf
      refine .inr ⟨i, j, m, k, rfl, rfl, rfl, rfl, rfl, hm, h1, h2, hj8, length_puts _ _ _, fun q => ?_, fun q a b => clr_iff.1 h3 q a b, h4, ?_⟩
      · rw [getB_puts true _ xs (fun p hp => by rw [List.mem_range'_1] at hp; omega)]
        simp only [List.mem_range'_1]
      · have hl : m ≤ (cl xs i j).length := by
          rw [cl_append xs h1 (by omega : k ≤ j), cl_append xs (by omega : k ≤ k + m) h2, cl_run h3]
          simp only [List.length_append, List.length_range']
          omega
        unfold take
        rw [if_pos (by simp [hok]; omega), if_pos (by simpa using hl)]
        exact ⟨_, _, rfl⟩
end Ex
namespace Go.Proofs.Ytnmplcnnpkbomaa
open Go.RowKit

set_option maxRecDepth 20000 in
set_option maxHeartbeats 1600000 in
theorem lfirst_w {v : Value} {xs : List UInt8} (x y n : Int) (w : World) (hv : Sl eb w v xs) (hx0 : -9223372036854775808 ≤ x) (hx : x ≤ 9223372036854775807) (hn : n ≤ 9223372036854775807) :
    Calls Try.prog 5 #[v, .agg #[.int .i64 x, .int .i64 y], .int .i64 n] w fun e w' => e = .returned (.bool true) ∧ Below w.heap.size w w' := by
  have HV := Lib.hid hv
  have HF := Lib.hid (fun w' (hb : Below w.heap.size w w') => few_w v xs w' (HV.out.below hb (Nat.le_refl _)))
  obtain ⟨a, cap, rfl, hc, hcm, hna, hrd⟩ := hv
  by_cases hm : xs.length ≤ 40
  · rcases hr : Ex.alloc xs x y n with ⟨at', ys, c⟩
    rcases hr2 : Ex.take xs x y n with ⟨l, zs, c2⟩
    have H1 := Lib.hid (fun w' (hb : Below w.heap.size w w') => alloc_w x y n (HV.out.below hb (Nat.le_refl _)) (by omega) hx hn hr)
    have H2 := Lib.hid (fun w' (hb : Below w.heap.size w w') => take_w x y n (HV.out.below hb (Nat.le_refl _)) (by omega) hx hn hr2)
    have HG := Lib.hid (fun (i : Nat) (hi : (i : Int) ≤ 9223372036854775807) (wr : World) (hbl : Below w.heap.size w wr) => get_w a cap xs.length xs i wr rfl (by omega) (hrd.below hbl (Nat.le_refl _)) hi)
    rw [decide_eq_true (by omega : (xs.length : Int) ≤ 40)] at HF
    rcases Ex.alloc_some hr with ⟨hc0, rfl, rfl, hcc⟩ | ⟨x, y, n, k, rfl, rfl, rfl, rfl, rfl, hn1, hxk, hky, hy8, hyl, hgy, hclr, hmin, l', zs', ht⟩
    · clear hr hr2 HV hrd HG
      rcases hcc with rfl | rfl
      all_goals
        go_enter Try.func5, Try.ntmps5
        go_wp2_with (first
          | (go_at_call 10; refine (awake_w _).mono ?_; rintro e w1 ⟨rfl, hb1⟩; obtain ⟨hbw1, hc10, hc11⟩ := box2 hb1)
          | (go_at_call 11; refine (HF.out w1 hbw1).mono ?_; rintro e w' ⟨rfl, rfl⟩)
          | (go_at_call 12; refine (H1.out w1 hbw1).mono ?_; rintro e w2 ⟨v1, rfl, ⟨a1, cap1, rfl, _, _, _, _⟩, hb2⟩; obtain ⟨hbw2, hc20, hc21⟩ := box2 (hb1.trans (hb2.mono hb1.size)))
          | (go_at_call 15; refine (H2.out w2 hbw2).mono ?_; rintro e w3 ⟨v2, v3, rfl, hs2, hs3, hb3⟩; have hbw3 := hbw2.trans (hb3.mono hbw2.size)))
        go_ret
        exact ⟨rfl, hbw3⟩
    · rw [hr2] at ht
      simp only [Prod.mk.injEq] at ht
      obtain ⟨rfl, rfl, rfl⟩ := ht
      have HGY := Lib.hid hgy
      have HCL := Lib.hid hclr
      have HMN := Lib.hid hmin
      have hyl' : (ys.length : Int) = (xs.length : Int) := by omega
      have f0 : ¬ (n : Int) < 1 := by omega
      have f1 : ¬ (k : Int) < (x : Int) := by omega
      have f2 : ¬ (y : Int) - (k : Int) < (n : Int) := by omega
      have f1b : decide (k < x) = false := decide_eq_false (by omega)
      have f0b : decide ((n : Int) < 1) = false := decide_eq_false f0
      have f2b : decide ((y : Int) - (k : Int) < (n : Int)) = false := decide_eq_false f2
      have HB : Hid (k + n ≤ 8 * xs.length) := by show _ ≤ _; omega
      clear hr hr2 HV hrd hgy hclr hmin
      go_enter Try.func5, Try.ntmps5
      go_wp2_with (first
        | (go_at_call 10; refine (awake_w _).mono ?_; rintro e w1 ⟨rfl, hb1⟩; obtain ⟨hbw1, hc10, hc11⟩ := box2 hb1)
        | (go_at_call 11; refine (HF.out w1 hbw1).mono ?_; rintro e w' ⟨rfl, rfl⟩)
        | (go_at_call 12; refine (H1.out w1 hbw1).mono ?_; rintro e w2 ⟨v1, rfl, ⟨a1, cap1, rfl, hy1, hy2, hy3, hyr⟩, hb2⟩; obtain ⟨hbw2, hc20, hc21⟩ := box2 (hb1.trans (hb2.mono hb1.size)))
        | (go_at_call 15; refine (H2.out w2 hbw2).mono ?_; rintro e w3 ⟨v2, v3, rfl, hs2, hs3, hb3⟩; have hbw3 := hbw2.trans (hb3.mono hbw2.size); obtain ⟨_, hc30, hc31⟩ := box2 ((hb1.trans (hb2.mono hb1.size)).trans (hb3.mono (hb1.trans (hb2.mono hb1.size)).size)); have hyr3 := Lib.hid (hyr.below hb3 (Nat.le_refl _))))
      have HY := Lib.hid (fun (i : Nat) (hi : (i : Int) ≤ 9223372036854775807) => get_w a1 cap1 ys.length ys i w3 rfl (by omega) hyr3.out hi)
      rw [hyl] at HY
      clear H1 H2 HF hs2 hs3 hyr hyr3 hb1 hb2 hb3 hc10 hc11 hc20 hc21 hc31
      go_loop [13, 14, 15] (fun s13 s14 _ => ∃ i r : Nat, s14 = .int .i64 i ∧ s13 = .int .i64 r ∧ i ≤ 8 * xs.length ∧ r ≤ i ∧ Hid (∀ j, i - r ≤ j → j < i → x ≤ j ∧ Ex.getB xs (j : Nat) = false)) (fun _ s14 _ => 8 * xs.length - (intOf s14).toNat)
      case atStart => exact ⟨0, 0, rfl, rfl, Nat.zero_le _, Nat.le_refl _, fun j h1 h2 => by omega⟩
      case round =>
        obtain ⟨i, r, rfl, rfl, hi8, hri, HN⟩ := hrel
        by_cases hlt : i < 8 * xs.length
        · have HGX := HG.out i (by omega) w3 hbw3
          have HGN := HY.out i (by omega)
          have N0 : Hid (∀ j, i + 1 - 0 ≤ j → j < i + 1 → x ≤ j ∧ Ex.getB xs (j : Nat) = false) := fun j h1 h2 => by omega
          have N1 : Hid (x ≤ i → Ex.getB xs (i : Nat) = false → ∀ j, i + 1 - (r + 1) ≤ j → j < i + 1 → x ≤ j ∧ Ex.getB xs (j : Nat) = false) := fun hxi hb j h1 h2 => by
            by_cases e : j = i
            · subst e; exact ⟨hxi, hb⟩
            · exact HN.out j (by omega) (by omega)
          have M1 : Hid (x ≤ i → Ex.getB xs (i : Nat) = false → r + 1 = n → k + n ≤ i + 1) := fun hxi hb hrn => by
            have h := N1.out hxi hb
            have hcl : Ex.clr xs (i + 1 - n) n = true := Ex.clr_iff.2 fun j h1 h2 => (h j (by omega) (by omega)).2
            by_cases hlt2 : i + 1 - n < k
            · have := HMN.out (i + 1 - n) (h _ (by omega) (by omega)).1 hlt2
              rw [hcl] at this; cases this
            · omega
          by_cases hin : k ≤ i ∧ i < k + n
          · have hbx := HCL.out i hin.1 hin.2
            have hby := HGY.out i
            rw [if_pos hin] at hby
            obtain ⟨hin1, hin2⟩ := hin
            have hxi : x ≤ i := by omega
            have N2 := Lib.hid (N1.out hxi hbx)
            have M2 := M1.out hxi hbx
            rw [hbx] at HGX
            rw [hby] at HGN
            clear hbx hby N0 N1 M1 HN
            by_cases hrn : r + 1 = n
            · have g1 := M2 hrn
              have g2 : ((r : Int) + 1 == (n : Int)) = true := by simp; omega
              have g3 : ¬ (i : Int) < (k : Int) + (n : Int) - 1 := by omega
              clear M2
              go_wp2_with (first | (go_at_call 18; first | (with_reducible refine HGX.mono ?_; rintro e w' ⟨rfl, rfl⟩) | (with_reducible refine HGN.mono ?_; rintro e w' ⟨rfl, rfl⟩)))
              go_round
              case rel => exact ⟨i + 1, r + 1, by go_num, by go_num, by omega, by omega, N2⟩
              case measure => simp [intOf]; omega
            · have g2 : ((r : Int) + 1 == (n : Int)) = false := by rw [beq_eq_false_iff_ne]; omega
              clear M2
              go_wp2_with (first | (go_at_call 18; first | (with_reducible refine HGX.mono ?_; rintro e w' ⟨rfl, rfl⟩) | (with_reducible refine HGN.mono ?_; rintro e w' ⟨rfl, rfl⟩)))
              go_round
              case rel => exact ⟨i + 1, r + 1, by go_num, by go_num, by omega, by omega, N2⟩
              case measure => simp [intOf]; omega
          · have hby := HGY.out i
            rw [if_neg hin] at hby
            rw [hby] at HGN
            have z0 : ((0 : Int) == (n : Int)) = false := by rw [beq_eq_false_iff_ne]; omega
            by_cases hki : (i : Int) < (k : Int)
            · have hk2 : ¬ (k : Int) ≤ (i : Int) := by omega
              by_cases hxi : (i : Int) < (x : Int)
              · cases hbx : Ex.getB xs i
                all_goals
                  rw [hbx] at HGX HGN
                  clear hbx hby N1 M1 HN hin
                  go_wp2_with (first | (go_at_call 18; first | (with_reducible refine HGX.mono ?_; rintro e w' ⟨rfl, rfl⟩) | (with_reducible refine HGN.mono ?_; rintro e w' ⟨rfl, rfl⟩)))
                  go_round
                  case rel => exact ⟨i + 1, 0, by go_num, by first | rfl | go_num, by omega, by omega, N0⟩
                  case measure => simp [intOf]; omega
              · cases hbx : Ex.getB xs i with
                | true =>
                  rw [hbx] at HGX HGN
                  clear hbx hby N1 M1 HN hin
                  go_wp2_with (first | (go_at_call 18; first | (with_reducible refine HGX.mono ?_; rintro e w' ⟨rfl, rfl⟩) | (with_reducible refine HGN.mono ?_; rintro e w' ⟨rfl, rfl⟩)))
                  go_round
                  case rel => exact ⟨i + 1, 0, by go_num, by first | rfl | go_num, by omega, by omega, N0⟩
                  case measure => simp [intOf]; omega
                | false =>
                  rw [hbx] at HGX HGN
                  have N2 := Lib.hid (N1.out (by omega) hbx)
                  have M2 := M1.out (by omega) hbx
                  clear hbx hby N1 M1 HN N0 hin
                  by_cases hrn : r + 1 = n
                  · have g1 := M2 hrn
                    omega
                  · have g2 : ((r : Int) + 1 == (n : Int)) = false := by rw [beq_eq_false_iff_ne]; omega
                    clear M2
                    go_wp2_with (first | (go_at_call 18; first | (with_reducible refine HGX.mono ?_; rintro e w' ⟨rfl, rfl⟩) | (with_reducible refine HGN.mono ?_; rintro e w' ⟨rfl, rfl⟩)))
                    go_round
                    case rel => exact ⟨i + 1, r + 1, by go_num, by first | rfl | go_num, by omega, by omega, N2⟩
                    case measure => simp [intOf]; omega
            · have hk3 : ¬ (i : Int) < (k : Int) + (n : Int) := by omega
              have hk4 : (k : Int) ≤ (i : Int) := by omega
              by_cases hxi : (i : Int) < (x : Int)
              · exact absurd hxi (by omega)
              · cases hbx : Ex.getB xs i with
                | true =>
                  rw [hbx] at HGX HGN
                  clear hbx hby N1 M1 HN hin
                  go_wp2_with (first | (go_at_call 18; first | (with_reducible refine HGX.mono ?_; rintro e w' ⟨rfl, rfl⟩) | (with_reducible refine HGN.mono ?_; rintro e w' ⟨rfl, rfl⟩)))
                  go_round
                  case rel => exact ⟨i + 1, 0, by go_num, by first | rfl | go_num, by omega, by omega, N0⟩
                  case measure => simp [intOf]; omega
                | false =>
                  rw [hbx] at HGX HGN
                  have N2 := Lib.hid (N1.out (by omega) hbx)
                  have M2 := M1.out (by omega) hbx
                  clear hbx hby N1 M1 HN N0 hin
                  by_cases hrn : r + 1 = n
                  · have g1 := M2 hrn
                    have g2 : ((r : Int) + 1 == (n : Int)) = true := by simp; omega
                    have g3 : ¬ (i : Int) < (k : Int) + (n : Int) - 1 := by omega
                    clear M2
                    go_wp2_with (first | (go_at_call 18; first | (with_reducible refine HGX.mono ?_; rintro e w' ⟨rfl, rfl⟩) | (with_reducible refine HGN.mono ?_; rintro e w' ⟨rfl, rfl⟩)))
                    go_round
                    case rel => exact ⟨i + 1, r + 1, by go_num, by first | rfl | go_num, by omega, by omega, N2⟩
                    case measure => simp [intOf]; omega
                  · have g2 : ((r : Int) + 1 == (n : Int)) = false := by rw [beq_eq_false_iff_ne]; omega
                    clear M2
                    go_wp2_with (first | (go_at_call 18; first | (with_reducible refine HGX.mono ?_; rintro e w' ⟨rfl, rfl⟩) | (with_reducible refine HGN.mono ?_; rintro e w' ⟨rfl, rfl⟩)))
                    go_round
                    case rel => exact ⟨i + 1, r + 1, by go_num, by first | rfl | go_num, by omega, by omega, N2⟩
                    case measure => simp [intOf]; omega
        · go_wp2
          go_ret
          exact ⟨rfl, hbw3⟩
  · rw [decide_eq_false (by omega : ¬ (xs.length : Int) ≤ 40)] at HF
    clear HV hrd
    go_enter Try.func5, Try.ntmps5
    go_wp2_with (first
      | (go_at_call 10; refine (awake_w _).mono ?_; rintro e w1 ⟨rfl, hb1⟩; obtain ⟨hbw1, hc10, hc11⟩ := box2 hb1)
      | (go_at_call 11; refine (HF.out w1 hbw1).mono ?_; rintro e w' ⟨rfl, rfl⟩))
    go_ret
    exact ⟨rfl, hbw1⟩
end Go.Proofs.Ytnmplcnnpkbomaa
