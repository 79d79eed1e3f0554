/-
  The walk of ExtentSpace.
-/
import Derived.Test.YtnmplcnnpkbomaaLrel
import Derived.Test.YtnmplcnnpkbomaaCountB
import Derived.Test.YtnmplcnnpkbomaaSpecS
namespace Go.Proofs.Ytnmplcnnpkbomaa
open Go.RowKit

set_option maxRecDepth 20000 in
set_option maxHeartbeats 3200000 in
theorem lspace_w {v : Value} {xs : List UInt8} (x y n : Int) (w : World) (hv : Sl eb w v xs) (hx : x ≤ 9223372036854775807) (hn : n ≤ 9223372036854775807) :
    Calls Try.prog 9 #[v, .agg #[.int .i64 x, .int .i64 y], .int .i64 n] w fun e w' => e = .returned (.bool true) ∧ Below w.heap.size w w' := by
  have HV := Lib.hid hv
  have HF := Lib.hid (fun w' (hb : Below w.heap.size w w') => few_w v xs w' (HV.out.below hb (Nat.le_refl _)))
  obtain ⟨a, cap, rfl, hc, hcm, hna, hrd⟩ := hv
  by_cases hm : xs.length ≤ 40
  · rw [decide_eq_true (by omega : (xs.length : Int) ≤ 40)] at HF
    by_cases hn1 : n < 1
    · clear HV hrd
      go_enter Try.func9, Try.ntmps9
      go_wp2_with (first
        | (go_at_call 10; refine (awake_w _).mono ?_; rintro e w1 ⟨rfl, hb1⟩; obtain ⟨hbw1, hc10, hc11⟩ := box2 hb1)
        | (go_at_call 11; refine (HF.out w1 hbw1).mono ?_; rintro e w' ⟨rfl, rfl⟩))
      go_ret
      exact ⟨rfl, hbw1⟩
    · have hn1' : 1 ≤ n := by omega
      have H1 := Lib.hid (fun w' (hb : Below w.heap.size w w') => clear_w x y (HV.out.below hb (Nat.le_refl _)) (by omega))
      obtain ⟨L, ys, c, hr⟩ : ∃ L ys c, Ex.take xs x y n = (L, ys, c) := ⟨_, _, _, rfl⟩
      have H2 := Lib.hid (fun w' (hb : Below w.heap.size w w') => take_w x y n (HV.out.below hb (Nat.le_refl _)) (by omega) hx hn hr)
      cases hok : Ex.okR xs.length x y with
      | false =>
        have hc1 : Ex.clearR xs x y = (0, 1) := by unfold Ex.clearR; rw [hok]; rfl
        rw [hc1] at H1
        rw [Ex.take_bad (.inl hok)] at hr
        simp only [Prod.mk.injEq] at hr
        obtain ⟨rfl, rfl, rfl⟩ := hr
        clear hc1 hok HV hrd
        go_enter Try.func9, Try.ntmps9
        go_wp2_with (first
          | (go_at_call 10; refine (awake_w _).mono ?_; rintro e w1 ⟨rfl, hb1⟩; obtain ⟨hbw1, hc10, hc11⟩ := box2 hb1)
          | (go_at_call 11; refine (HF.out w1 hbw1).mono ?_; rintro e w' ⟨rfl, rfl⟩)
          | (go_at_call 21; refine (H1.out w1 hbw1).mono ?_; rintro e w' ⟨rfl, rfl⟩)
          | (go_at_call 15; refine (H2.out w1 hbw1).mono ?_; rintro e w2 ⟨v1, v2, rfl, hs1, hs2, hb2⟩; have hbw2 := hbw1.trans (hb2.mono hbw1.size)))
        go_ret
        exact ⟨rfl, hbw2⟩
      | true =>
        obtain ⟨x, y, rfl, rfl, hxy, hy8⟩ := Ex.okR_nat hok
        obtain ⟨n, rfl⟩ := Int.eq_ofNat_of_zero_le (by omega : 0 ≤ n)
        have hc1 : Ex.clearR xs x y = ((((Ex.cl xs x y).length : Nat) : Int), (0 : Int)) := by unfold Ex.clearR; rw [if_pos hok, Int.toNat_natCast, Int.toNat_natCast]
        rw [hc1] at H1
        have hcl := Ex.cl_length xs x y
        by_cases hl : (Ex.cl xs x y).length < n
        · rw [Ex.take_few hok (by omega) hl] at hr
          simp only [Prod.mk.injEq] at hr
          obtain ⟨rfl, rfl, rfl⟩ := hr
          have f1 : ((Ex.cl xs x y).length : Int) < (n : Int) := by omega
          generalize (Ex.cl xs x y).length = m at *
          clear hc1 hok HV hrd
          go_enter Try.func9, Try.ntmps9
          go_wp2_with (first
            | (go_at_call 10; refine (awake_w _).mono ?_; rintro e w1 ⟨rfl, hb1⟩; obtain ⟨hbw1, hc10, hc11⟩ := box2 hb1)
            | (go_at_call 11; refine (HF.out w1 hbw1).mono ?_; rintro e w' ⟨rfl, rfl⟩)
            | (go_at_call 21; refine (H1.out w1 hbw1).mono ?_; rintro e w' ⟨rfl, rfl⟩)
            | (go_at_call 15; refine (H2.out w1 hbw1).mono ?_; rintro e w2 ⟨v1, v2, rfl, hs1, hs2, hb2⟩; have hbw2 := hbw1.trans (hb2.mono hbw1.size); obtain ⟨a1, c1, rfl, -⟩ := hs1))
          go_ret
          exact ⟨rfl, hbw2⟩
        · have hl' : n ≤ (Ex.cl xs x y).length := by omega
          obtain ⟨L', ys', ht, hL, hys, hrel, hcnt, hat⟩ := Ex.take_space hok (by omega) hl'
          rw [ht] at hr
          simp only [Prod.mk.injEq] at hr
          obtain ⟨rfl, rfl, rfl⟩ := hr
          have hL2 : L'.length ≤ 320 := by omega
          have hlw : ∀ k ∈ L'.map (fun i : Nat => (i : Int)), k ≤ 9223372036854775807 := fun k hk => by
            obtain ⟨i, hi, rfl⟩ := List.mem_map.1 hk
            obtain ⟨j, hj, rfl⟩ := List.getElem_of_mem hi
            have := (hat j hj).2.2
            omega
          have H3 := Lib.hid (fun w' v1 v2 (h1 : Sl ei w' v1 L') (h2 : Sl eb w' v2 ys') => rel_w (w := w') h2 h1.ints (by omega) (by simp; omega) hlw hrel)
          have H4 := Lib.hid (fun w' v2 (h2 : Sl eb w' v2 ys') => count_w (w := w') h2 (by omega))
          have H5 := Lib.hid (fun w' (hb : Below w.heap.size w w') => count_w (HV.out.below hb (Nat.le_refl _)) (by omega))
          have H6 := Lib.hid (fun w' v3 (h3 : Sl eb w' v3 xs) (hb : Below w.heap.size w w') => same_t h3 (HV.out.below hb (Nat.le_refl _)))
          have H7 : Hid (∀ w' (k : Nat) (hk : k < L'.length), Below w.heap.size w w' → Calls Try.prog 21 #[.slice a xs.length cap, .int .i64 x, .int .i64 (L'[k] : Nat)] w' fun e w'' => e = .returned (.tuple #[.int .i64 k, .int .i64 0]) ∧ w'' = w') := fun w' k hk hb => by
            have := clear_w x (L'[k] : Nat) (HV.out.below hb (Nat.le_refl _)) (by omega)
            rw [(hat k hk).1] at this
            exact this.mono fun _ _ ⟨h, h'⟩ => ⟨h, h'.symm⟩
          have H8 : Hid (∀ w' (k : Nat) (hk : k < L'.length), Below w.heap.size w w' → Calls Try.prog 18 #[.slice a xs.length cap, .int .i64 (L'[k] : Nat)] w' fun e w'' => e = .returned (.bool false) ∧ w' = w'') := fun w' k hk hb => by
            have := get_w a cap xs.length xs (L'[k] : Nat) w' rfl (by omega) (hrd.below hb (Nat.le_refl _)) (by have := (hat k hk).2.2; omega)
            rw [(hat k hk).2.1] at this
            exact this
          rw [hys] at H4
          have hct : Ex.countTo xs (8 * xs.length) ≤ 8 * xs.length := by
            unfold Ex.countTo
            have := List.length_filter_le (fun j : Nat => Ex.getB xs (j : Nat)) (List.range (8 * xs.length))
            simpa using this
          rw [hcnt] at H4
          generalize Ex.countTo xs (8 * xs.length) = N at *
          have HL := Lib.hid hL
          have f1 : ((Ex.cl xs x y).length : Int) ≥ (n : Int) := by omega
          have f2 : ((L'.length : Int) != (n : Int)) = false := by rw [hL]; simp
          generalize (Ex.cl xs x y).length = m at *
          have HAT := Lib.hid (fun k hk => (hat k hk).2.2)
          clear hc1 hok hrd hat hcnt hrel ht hL hlw HV hys
          go_enter Try.func9, Try.ntmps9
          go_wp2_with (first
            | (go_at_call 10; refine (awake_w _).mono ?_; rintro e w1 ⟨rfl, hb1⟩; obtain ⟨hbw1, hc10, hc11⟩ := box2 hb1)
            | (go_at_call 11; refine (HF.out w1 hbw1).mono ?_; rintro e w' ⟨rfl, rfl⟩)
            | (go_at_call 21; refine (H1.out w1 hbw1).mono ?_; rintro e w' ⟨rfl, rfl⟩)
            | (go_at_call 15; refine (H2.out w1 hbw1).mono ?_; rintro e w2 ⟨v1, v2, rfl, hs1, hs2, hb2⟩; have hb12 := hb1.trans (hb2.mono hb1.size); obtain ⟨hbw2, hc20, hc21⟩ := box2 hb12; have HS1 := Lib.hid hs1; have HS2 := Lib.hid hs2; obtain ⟨a1, c1, rfl, hl1, hl2, hl3, hl4⟩ := hs1; clear hs2)
            | (go_at_call 19; refine (H3.out w2 _ _ HS1.out HS2.out).mono ?_; rintro e w3 ⟨v3, rfl, hs3, hb3⟩; have hb13 := hb12.trans (hb3.mono hb12.size); obtain ⟨hbw3, hc30, hc31⟩ := box2 hb13; have HS3 := Lib.hid hs3; clear hs3)
            | (go_at_call 14; refine (H6.out w3 v3 HS3.out hbw3).mono ?_; rintro e w' ⟨rfl, rfl⟩)
            | (go_at_call 26; (with_reducible refine (H5.out w3 hbw3).mono ?_); rintro e w' ⟨rfl, rfl⟩)
            | (go_at_call 26; refine (H4.out w3 v2 (HS2.out.below hb3 (Nat.le_refl _))).mono ?_; rintro e w' ⟨rfl, rfl⟩))
          have hbl3 : Below w2.heap.size w2 w3 := hb3
          clear H1 H2 H3 H4 H5 H6 HF HS1 HS2 HS3 hb2 hb3 hc10 hc11 hc20 hc21 hbw1 hbw2 hb1
          unfold maxLen at hl2
          go_loopw [14, 15, 16, 100] (fun _ _ _ s100 wr => ∃ k : Nat, s100 = .int .i64 k ∧ k ≤ L'.length ∧ Below w3.heap.size w3 wr) (fun _ _ _ s100 _ => L'.length - (intOf s100).toNat)
          case atStart => exact ⟨0, rfl, Nat.zero_le _, Below.refl _ _⟩
          case round =>
            obtain ⟨k, rfl, hk, hbr⟩ := hrel
            have hb1r := hb13.trans (hbr.mono hb13.size)
            obtain ⟨hbwr, hcr0, hcr1⟩ := box2 hb1r
            by_cases hlt : k < L'.length
            · obtain ⟨b, off, rfl, hb, hcs⟩ := ((hl4.below hbl3 (Nat.le_refl _)).below hbr (Nat.le_refl _)).form (by omega)
              have hck := hcs k hlt
              unfold ei at hck
              have g1 : (0 : Int) ≤ (k : Int) := by omega
              have g2 : (k : Int) < (L'.length : Int) := by omega
              have HC := Lib.hid (fun q => H7.out (wr.drewN q) k hlt ⟨hbwr.os, hbwr.tape, hbwr.output, hbwr.size, hbwr.block⟩)
              have HG := Lib.hid (fun q => H8.out (wr.drewN q) k hlt ⟨hbwr.os, hbwr.tape, hbwr.output, hbwr.size, hbwr.block⟩)
              have h320 := HAT.out k hlt
              clear hcs
              generalize L'[k] = j at *
              go_wp2_with fail
              go_quiet ((go_at_call 21; exact Calls.quiet_of_same (HC.out _)))
              go_wp2_with (go_at_call 18; refine (HG.out _).mono ?_; rintro e w' ⟨rfl, rfl⟩)
              go_roundw
              case rel => exact ⟨k + 1, by go_num, by omega, ⟨hbr.os, hbr.tape, hbr.output, hbr.size, hbr.block⟩⟩
              case measure => simp [intOf]; omega
            · go_wp2
              go_ret
              exact ⟨rfl, hbwr⟩
  · rw [decide_eq_false (by omega : ¬ (xs.length : Int) ≤ 40)] at HF
    clear HV hrd
    go_enter Try.func9, Try.ntmps9
    go_wp2_with (first
      | (go_at_call 10; refine (awake_w _).mono ?_; rintro e w1 ⟨rfl, hb1⟩; obtain ⟨hbw1, hc10, hc11⟩ := box2 hb1)
      | (go_at_call 11; refine (HF.out w1 hbw1).mono ?_; rintro e w' ⟨rfl, rfl⟩))
    go_ret
    exact ⟨rfl, hbw1⟩
end Go.Proofs.Ytnmplcnnpkbomaa
