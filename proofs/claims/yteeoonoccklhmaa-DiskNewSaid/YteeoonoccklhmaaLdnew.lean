/-
  The walk of DiskNew (printed by gen/mk11dnew.py).
-/
import Derived.Test.YteeoonoccklhmaaLans
import Derived.Test.YteeoonoccklhmaaEqd
import Derived.Test.YteeoonoccklhmaaRn
import Derived.Test.YteeoonoccklhmaaCon
namespace Dk
/-- New's answer in one form. -/
theorem new_form (xs : List UInt8) : ∃ B ec, new xs = ((B, zch), ec) ∧ B.length ≤ 160 ∧ B.length ≠ 1 ∧ (∀ i (h : i < B.length), B[i].length = 128) ∧ (ec = 0 → valid (B, zch) = true) := by
  by_cases h : 20480 < xs.length
  · exact ⟨[], 6, if_pos h, by simp, by simp, fun i h => absurd h (by simp), fun h => absurd h (by decide)⟩
  · have hF := fill_len (xs := xs) (by omega)
    refine ⟨cutB (fillB xs), 0, if_neg h, by rw [cut_len]; exact Nat.le_refl _, by rw [cut_len]; decide, fun i hi => ?_, fun _ => cut_valid hF⟩
    have hi' : i < 160 := by rw [cut_len] at hi; exact hi
    rw [cut_get _ i hi', List.length_take, List.length_drop, hF]
    omega
end Dk
namespace Go.Proofs.Yteeoonoccklhmaa
open Go.RowKit
set_option linter.unusedVariables false

set_option maxRecDepth 100000 in
set_option maxHeartbeats 8000000 in
theorem ldnew_w {v0 : Value} {w : World} (h0 : IsBytes w v0) : Calls Try.prog 7 #[v0] w fun e w' => e = .returned (.bool true) ∧ Below w.heap.size w w' := by
  obtain ⟨xs, hx⟩ := h0
  obtain ⟨a, c, rfl, hc, hcm, -, -⟩ := id hx
  unfold maxLen at hcm
  have HX := Lib.hid hx
  have HAW := Lib.hid (fun W => awake_w W)
  clear hx
  by_cases hbig : 21000 < xs.length
  · have f1 : (21000 : Int) < (xs.length : Int) := by omega
    clear hbig
    go_enter Try.func7, Try.ntmps7
    go_upto_region 2 with (go_at_call 9; (with_reducible refine (HAW.out _).mono ?_); rintro e w1 ⟨rfl, hb1⟩)
    go_wp2_with (go_at_call 9; (with_reducible refine (HAW.out _).mono ?_); rintro e w2 ⟨rfl, hb2⟩)
    go_ret
    exact ⟨rfl, low_trans hb1 hb2⟩
  · have f1 : ¬ (21000 : Int) < (xs.length : Int) := by omega
    have hle : xs.length ≤ 1000000 := by omega
    clear hbig
    obtain ⟨B, ec, hnew, hB160, hB1, hB128, hval⟩ := Dk.new_form xs
    have HNEW := Lib.hid hnew
    have H128 := Lib.hid hB128
    have HVAL := Lib.hid hval
    obtain ⟨nB, hnB⟩ : ∃ n, B.length = n := ⟨_, rfl⟩
    have HNB := Lib.hid hnB
    have HDN : Hid (∀ W, Below w.heap.size w W → Calls Try.prog 22 #[.slice a xs.length c] W fun e w' => ∃ a1 k1 a2 k2 a3 k3, e = .returned (.tuple #[.agg #[.slice a1 nB k1, .bool false, .int .i64 0, .int .i64 0, .int .i64 0, .slice a2 0 k2, .int .i64 0, .int .i64 0, .int .i64 0, .slice a3 0 k3], .int .i64 ec]) ∧ Dr w' (.slice a1 nB k1) (.slice a2 0 k2) (.slice a3 0 k3) B [] [] ∧ Below W.heap.size W w') := fun W hW => by
      refine (new_w (X := fun _ => False) (HX.out.below hW (Nat.le_refl _)) hle (fun _ h => h.elim)).mono fun e w' h => ?_
      rw [HNEW.out] at h
      obtain ⟨ub, uc, ul, es, rfl, hd, hb⟩ := h
      have hdr : Dr w' ub uc ul B [] [] := hd.de.dr
      obtain ⟨a1, k1, rfl, -⟩ := hdr.b.open
      obtain ⟨a2, k2, rfl, -⟩ := id hdr.c
      obtain ⟨a3, k3, rfl, -⟩ := id hdr.l
      rw [← HNB.out]
      exact ⟨a1, k1, a2, k2, a3, k3, rfl, hdr, hb⟩
    have HRN : Hid (∀ W, Below w.heap.size w W → Calls Try.prog 23 #[.slice a xs.length c] W fun e w' => ∃ aR kR, e = .returned (.tuple #[.agg #[.slice aR nB kR, .bool false, .int .i64 0, .int .i64 0, .int .i64 0, .slice none 0 0, .int .i64 0, .int .i64 0, .int .i64 0, .slice none 0 0], .int .i64 ec]) ∧ Pg w' (.slice aR nB kR) B ∧ Below W.heap.size W w') := fun W hW => by
      refine (rnew_w (HX.out.below hW (Nat.le_refl _)) hle).mono fun e w' h => ?_
      rw [HNEW.out] at h
      obtain ⟨ub, rfl, hp, hb⟩ := h
      obtain ⟨a1, k1, rfl, -⟩ := hp.open
      rw [← HNB.out]
      exact ⟨a1, k1, rfl, hp, hb⟩
    clear hnew hB128 hval hnB
    go_enter Try.func7, Try.ntmps7
    go_upto_region 3 with (go_at_call 9; (with_reducible refine (HAW.out _).mono ?_); rintro e w1 ⟨rfl, hb1⟩)
    go_upto_region 4 with (go_at_call 22; (with_reducible refine (HDN.out _ hb1).mono ?_); rintro e w3 ⟨a1, k1, a2, k2, a3, k3, rfl, hdA, hb3⟩)
    have hl3 := low_trans hb1 hb3
    have hk3 : Bk (w3.alloc (.cells #[.slice a1 nB k1, .bool false, .int .i64 0, .int .i64 0, .int .i64 0, .slice a2 0 k2, .int .i64 0, .int .i64 0, .int .i64 0, .slice a3 0 k3] 39 (0, 0))) w3.heap.size 39 [.slice a1 nB k1, .bool false, .int .i64 0, .int .i64 0, .int .i64 0, .slice a2 0 k2, .int .i64 0, .int .i64 0, .int .i64 0, .slice a3 0 k3] := Bk.new _ _ [.slice a1 nB k1, .bool false, .int .i64 0, .int .i64 0, .int .i64 0, .slice a2 0 k2, .int .i64 0, .int .i64 0, .int .i64 0, .slice a3 0 k3]
    have hl3a : Below w.heap.size w (w3.alloc (.cells #[.slice a1 nB k1, .bool false, .int .i64 0, .int .i64 0, .int .i64 0, .slice a2 0 k2, .int .i64 0, .int .i64 0, .int .i64 0, .slice a3 0 k3] 39 (0, 0))) := stepAny hl3 (low_alloc _ _)
    have hdA3 : Dr (w3.alloc (.cells #[.slice a1 nB k1, .bool false, .int .i64 0, .int .i64 0, .int .i64 0, .slice a2 0 k2, .int .i64 0, .int .i64 0, .int .i64 0, .slice a3 0 k3] 39 (0, 0))) (.slice a1 nB k1) (.slice a2 0 k2) (.slice a3 0 k3) B [] [] := hdA.below (low_alloc _ _) (Nat.le_refl _)
    clear hdA hb1 hb3 hl3
    generalize w3.alloc (.cells #[.slice a1 nB k1, .bool false, .int .i64 0, .int .i64 0, .int .i64 0, .slice a2 0 k2, .int .i64 0, .int .i64 0, .int .i64 0, .slice a3 0 k3] 39 (0, 0)) = W3 at *
    obtain ⟨b3, hb3e⟩ : ∃ x, x = w3.heap.size := ⟨_, rfl⟩
    rw [← hb3e] at hk3 ⊢
    clear hb3e
    go_upto_region 5 with (go_at_call 23; (with_reducible refine (HRN.out _ hl3a).mono ?_); rintro e w4 ⟨aR, kR, rfl, hpR, hb4⟩)
    have hk5 : Bk (w4.alloc (.cells #[.slice aR nB kR, .bool false, .int .i64 0, .int .i64 0, .int .i64 0, .slice none 0 0, .int .i64 0, .int .i64 0, .int .i64 0, .slice none 0 0] 31 (0, 0))) w4.heap.size 31 [.slice aR nB kR, .bool false, .int .i64 0, .int .i64 0, .int .i64 0, .slice none 0 0, .int .i64 0, .int .i64 0, .int .i64 0, .slice none 0 0] := Bk.new _ _ [.slice aR nB kR, .bool false, .int .i64 0, .int .i64 0, .int .i64 0, .slice none 0 0, .int .i64 0, .int .i64 0, .int .i64 0, .slice none 0 0]
    have hk35 : Bk (w4.alloc (.cells #[.slice aR nB kR, .bool false, .int .i64 0, .int .i64 0, .int .i64 0, .slice none 0 0, .int .i64 0, .int .i64 0, .int .i64 0, .slice none 0 0] 31 (0, 0))) b3 39 [.slice a1 nB k1, .bool false, .int .i64 0, .int .i64 0, .int .i64 0, .slice a2 0 k2, .int .i64 0, .int .i64 0, .int .i64 0, .slice a3 0 k3] := (hk3.below hb4 hk3.lt).alloc _
    have hdA5 : Dr (w4.alloc (.cells #[.slice aR nB kR, .bool false, .int .i64 0, .int .i64 0, .int .i64 0, .slice none 0 0, .int .i64 0, .int .i64 0, .int .i64 0, .slice none 0 0] 31 (0, 0))) (.slice a1 nB k1) (.slice a2 0 k2) (.slice a3 0 k3) B [] [] := (hdA3.below hb4 (Nat.le_refl _)).below (low_alloc _ _) (Nat.le_refl _)
    have hpR5 : Pg (w4.alloc (.cells #[.slice aR nB kR, .bool false, .int .i64 0, .int .i64 0, .int .i64 0, .slice none 0 0, .int .i64 0, .int .i64 0, .int .i64 0, .slice none 0 0] 31 (0, 0))) (.slice aR nB kR) B := hpR.below (low_alloc _ _) (Nat.le_refl _)
    have hl5 : Below w.heap.size w (w4.alloc (.cells #[.slice aR nB kR, .bool false, .int .i64 0, .int .i64 0, .int .i64 0, .slice none 0 0, .int .i64 0, .int .i64 0, .int .i64 0, .slice none 0 0] 31 (0, 0))) := stepAny (stepAny hl3a hb4) (low_alloc _ _)
    clear hk3 hdA3 hl3a hpR hb4
    generalize w4.alloc (.cells #[.slice aR nB kR, .bool false, .int .i64 0, .int .i64 0, .int .i64 0, .slice none 0 0, .int .i64 0, .int .i64 0, .int .i64 0, .slice none 0 0] 31 (0, 0)) = W5 at *
    obtain ⟨b5, hb5e⟩ : ∃ x, x = w4.heap.size := ⟨_, rfl⟩
    rw [← hb5e] at hk5 ⊢
    clear hb5e
    have HFR : Hid (∀ W, Below W5.heap.size W5 W → Calls Try.prog 16 #[.agg #[.slice a1 nB k1, .bool false, .int .i64 0, .int .i64 0, .int .i64 0, .slice a2 0 k2, .int .i64 0, .int .i64 0, .int .i64 0, .slice a3 0 k3]] W fun e w' => e = .returned (.agg #[.slice a1 nB k1, .bool false, .int .i64 0, .int .i64 0, .int .i64 0, .slice a2 0 k2, .int .i64 0, .int .i64 0, .int .i64 0, .slice a3 0 k3]) ∧ Below W.heap.size W w') := fun W _ => from_w false 0 0 0 0 0 0 _ _ _ _ _ _ _ _ _ W
    have HE1 : Hid (∀ W, Below W5.heap.size W5 W → Calls Try.prog 15 #[.agg #[.slice a1 nB k1, .bool false, .int .i64 0, .int .i64 0, .int .i64 0, .slice a2 0 k2, .int .i64 0, .int .i64 0, .int .i64 0, .slice a3 0 k3], .agg #[.slice aR nB kR, .bool false, .int .i64 0, .int .i64 0, .int .i64 0, .slice none 0 0, .int .i64 0, .int .i64 0, .int .i64 0, .slice none 0 0]] W fun e w' => e = .returned (.bool true) ∧ Below W.heap.size W w') := fun W hW => by
      have h := rsequal_w (w := W) false false 0 0 0 0 0 0 0 0 0 0 0 0 (hdA5.below hW (Nat.le_refl _)) (⟨hpR5.below hW (Nat.le_refl _), Sl.nil _ _, Sl.nil _ _⟩ : Dr W _ (.slice none 0 0) (.slice none 0 0) B [] [])
      rw [Dk.eqS_iff.2 rfl] at h
      exact h
    have HDC : Hid (∀ W, Below W5.heap.size W5 W → Calls Try.prog 25 #[.agg #[.slice a1 nB k1, .bool false, .int .i64 0, .int .i64 0, .int .i64 0, .slice a2 0 k2, .int .i64 0, .int .i64 0, .int .i64 0, .slice a3 0 k3]] W fun e w' => ∃ aD kD, e = .returned (.slice aD B.flatten.length kD) ∧ Sl eb w' (.slice aD B.flatten.length kD) B.flatten ∧ Below W.heap.size W w') := fun W hW => by
      have h := hdA5.b.below hW (Nat.le_refl _)
      rw [← HNB.out] at h ⊢
      refine (dcont_w false 0 0 0 0 0 0 h hB160 hB1 H128.out).mono fun e w' h => ?_
      obtain ⟨v', rfl, hs, hb⟩ := h
      obtain ⟨a', c', rfl, -⟩ := id hs
      exact ⟨a', c', rfl, hs, hb⟩
    have HRC : Hid (∀ W, Below W5.heap.size W5 W → Calls Try.prog 26 #[.agg #[.slice aR nB kR, .bool false, .int .i64 0, .int .i64 0, .int .i64 0, .slice none 0 0, .int .i64 0, .int .i64 0, .int .i64 0, .slice none 0 0]] W fun e w' => ∃ aE kE, e = .returned (.slice aE B.flatten.length kE) ∧ Sl eb w' (.slice aE B.flatten.length kE) B.flatten ∧ Below W.heap.size W w') := fun W hW => by
      have h := hpR5.below hW (Nat.le_refl _)
      rw [← HNB.out] at h ⊢
      refine (rcont_w false 0 0 0 0 0 0 h hB160 H128.out).mono fun e w' h => ?_
      obtain ⟨v', rfl, ho, hb⟩ := h
      have hs := Sl.ofOwn ho
      obtain ⟨a', c', rfl, -⟩ := id hs
      exact ⟨a', c', rfl, hs, hb⟩
    have HSB : Hid (∀ W aD kD aE kE, Sl eb W (.slice aD B.flatten.length kD) B.flatten → Sl eb W (.slice aE B.flatten.length kE) B.flatten → Calls Try.prog 24 #[.slice aD B.flatten.length kD, .slice aE B.flatten.length kE] W fun e w' => e = .returned (.bool true) ∧ Below W.heap.size W w') := fun W aD kD aE kE h1 h2 => by
      have h := sameBytes_w h1 h2
      rw [decide_eq_true rfl] at h
      exact h
    have HV2 : Hid (ec = 0 → ∀ W, Below W5.heap.size W5 W → Calls Try.prog 17 #[.agg #[.slice a1 nB k1, .bool false, .int .i64 0, .int .i64 0, .int .i64 0, .slice a2 0 k2, .int .i64 0, .int .i64 0, .int .i64 0, .slice a3 0 k3]] W fun e w' => e = .returned (.bool true) ∧ Below W.heap.size W w') := fun he W hW => by
      have h := dvalid_w false 0 0 0 0 0 0 (hdA5.below hW (Nat.le_refl _))
      rw [show Dk.valid (B, (false, (0, 0, 0, []), 0, (0, 0, []))) = true from HVAL.out he] at h
      exact h
    have HQ : Hid (∀ W, Below W5.heap.size W5 W → W.cell? ⟨b3, 0, none⟩ = some (.slice a1 nB k1) ∧ W.cell? ⟨b3, 1, none⟩ = some (.bool false) ∧ W.cell? ⟨b3, 2, none⟩ = some (.int .i64 0) ∧ W.cell? ⟨b3, 3, none⟩ = some (.int .i64 0) ∧ W.cell? ⟨b3, 4, none⟩ = some (.int .i64 0) ∧ W.cell? ⟨b3, 5, none⟩ = some (.slice a2 0 k2) ∧ W.cell? ⟨b3, 6, none⟩ = some (.int .i64 0) ∧ W.cell? ⟨b3, 7, none⟩ = some (.int .i64 0) ∧ W.cell? ⟨b3, 8, none⟩ = some (.int .i64 0) ∧ W.cell? ⟨b3, 9, none⟩ = some (.slice a3 0 k3) ∧ W.cell? ⟨b5, 0, none⟩ = some (.slice aR nB kR) ∧ W.cell? ⟨b5, 1, none⟩ = some (.bool false) ∧ W.cell? ⟨b5, 2, none⟩ = some (.int .i64 0) ∧ W.cell? ⟨b5, 3, none⟩ = some (.int .i64 0) ∧ W.cell? ⟨b5, 4, none⟩ = some (.int .i64 0) ∧ W.cell? ⟨b5, 5, none⟩ = some (.slice none 0 0) ∧ W.cell? ⟨b5, 6, none⟩ = some (.int .i64 0) ∧ W.cell? ⟨b5, 7, none⟩ = some (.int .i64 0) ∧ W.cell? ⟨b5, 8, none⟩ = some (.int .i64 0) ∧ W.cell? ⟨b5, 9, none⟩ = some (.slice none 0 0)) := fun W hW => by
      have h2 := hk35.below hW hk35.lt
      have h3 := hk5.below hW hk5.lt
      exact ⟨h2.cell 0, h2.cell 1, h2.cell 2, h2.cell 3, h2.cell 4, h2.cell 5, h2.cell 6, h2.cell 7, h2.cell 8, h2.cell 9, h3.cell 0, h3.cell 1, h3.cell 2, h3.cell 3, h3.cell 4, h3.cell 5, h3.cell 6, h3.cell 7, h3.cell 8, h3.cell 9⟩
    have HL5 := Lib.hid hl5
    clear hk5 hk35 hdA5 hpR5 hl5 HDN HRN
    generalize B.flatten = fl at *
    by_cases hec : ec = 0
    · subst hec
      have HVA : Hid (∀ W, Below W5.heap.size W5 W → Calls Try.prog 17 #[.agg #[.slice a1 nB k1, .bool false, .int .i64 0, .int .i64 0, .int .i64 0, .slice a2 0 k2, .int .i64 0, .int .i64 0, .int .i64 0, .slice a3 0 k3]] W fun e w' => e = .returned (.bool true) ∧ Below W.heap.size W w') := HV2.out rfl
      clear HV2
      have hl0 := low_drew W5
      refine wp_region_noPanic ?_
      refine wp_region_held_drew (S := fun w' => w'.cell? ⟨b3, 0, none⟩ = some (.slice a1 nB k1) ∧ w'.cell? ⟨b3, 1, none⟩ = some (.bool false) ∧ w'.cell? ⟨b3, 2, none⟩ = some (.int .i64 0) ∧ w'.cell? ⟨b3, 3, none⟩ = some (.int .i64 0) ∧ w'.cell? ⟨b3, 4, none⟩ = some (.int .i64 0) ∧ w'.cell? ⟨b3, 5, none⟩ = some (.slice a2 0 k2) ∧ w'.cell? ⟨b3, 6, none⟩ = some (.int .i64 0) ∧ w'.cell? ⟨b3, 7, none⟩ = some (.int .i64 0) ∧ w'.cell? ⟨b3, 8, none⟩ = some (.int .i64 0) ∧ w'.cell? ⟨b3, 9, none⟩ = some (.slice a3 0 k3) ∧ w'.cell? ⟨b5, 0, none⟩ = some (.slice aR nB kR) ∧ w'.cell? ⟨b5, 1, none⟩ = some (.bool false) ∧ w'.cell? ⟨b5, 2, none⟩ = some (.int .i64 0) ∧ w'.cell? ⟨b5, 3, none⟩ = some (.int .i64 0) ∧ w'.cell? ⟨b5, 4, none⟩ = some (.int .i64 0) ∧ w'.cell? ⟨b5, 5, none⟩ = some (.slice none 0 0) ∧ w'.cell? ⟨b5, 6, none⟩ = some (.int .i64 0) ∧ w'.cell? ⟨b5, 7, none⟩ = some (.int .i64 0) ∧ w'.cell? ⟨b5, 8, none⟩ = some (.int .i64 0) ∧ w'.cell? ⟨b5, 9, none⟩ = some (.slice none 0 0)) (by kernel_rfl) (HQ.out _ hl0) (fun _ => ?_)
      refine wpAnyH_take (i := 0) (oi := ⟨some 25, _, _, _, _, _⟩) (v := ?_) rfl (by kernel_rfl) (by kernel_rfl) (by kernel_rfl) (fun _ _ _ h => h) (Or.inl ⟨by rfl, ?hyg0⟩) (HQ.out _ (by with_reducible assumption)) ?reg0
      case hyg0 => ((intro w hSw; (try dsimp only at hSw); go_simp); first | done | with_reducible rfl)
      (try simp only [Act.put, List.setIfInBounds_toArray, List.set_cons_zero, List.set_cons_succ])
      refine wpAnyH_take (i := 1) (oi := ⟨some 26, _, _, _, _, _⟩) (v := ?_) rfl (by kernel_rfl) (by kernel_rfl) (by kernel_rfl) (fun _ _ _ h => h) (Or.inl ⟨by rfl, ?hyg1⟩) (HQ.out _ (by with_reducible assumption)) ?reg1
      case hyg1 => ((intro w hSw; (try dsimp only at hSw); go_simp); first | done | with_reducible rfl)
      (try simp only [Act.put, List.setIfInBounds_toArray, List.set_cons_zero, List.set_cons_succ])
      refine wpAnyH_take (i := 2) (oi := ⟨some 27, _, _, _, _, _⟩) (v := ?_) rfl (by kernel_rfl) (by kernel_rfl) (by kernel_rfl) (fun _ _ _ h => h) (Or.inl ⟨by rfl, ?hyg2⟩) (HQ.out _ (by with_reducible assumption)) ?reg2
      case hyg2 => ((intro w hSw; (try dsimp only at hSw); go_simp); first | done | with_reducible rfl)
      (try simp only [Act.put, List.setIfInBounds_toArray, List.set_cons_zero, List.set_cons_succ])
      refine wpAnyH_take (i := 3) (oi := ⟨some 28, _, _, _, _, _⟩) (v := ?_) rfl (by kernel_rfl) (by kernel_rfl) (by kernel_rfl) (fun _ _ _ h => h) (Or.inl ⟨by rfl, ?hyg3⟩) (HQ.out _ (by with_reducible assumption)) ?reg3
      case hyg3 => ((intro w hSw; (try dsimp only at hSw); go_simp); first | done | with_reducible rfl)
      (try simp only [Act.put, List.setIfInBounds_toArray, List.set_cons_zero, List.set_cons_succ])
      refine wpAnyH_take (i := 4) (oi := ⟨some 29, _, _, _, _, _⟩) (v := ?_) rfl (by kernel_rfl) (by kernel_rfl) (by kernel_rfl) (fun _ _ _ h => h) (Or.inl ⟨by rfl, ?hyg4⟩) (HQ.out _ (by with_reducible assumption)) ?reg4
      case hyg4 => ((intro w hSw; (try dsimp only at hSw); go_simp); first | done | with_reducible rfl)
      (try simp only [Act.put, List.setIfInBounds_toArray, List.set_cons_zero, List.set_cons_succ])
      refine wpAnyH_take (i := 6) (oi := ⟨some 31, _, _, _, _, _⟩) (v := ?_) rfl (by kernel_rfl) (by kernel_rfl) (by kernel_rfl) (fun _ _ _ h => h) (Or.inl ⟨by rfl, ?hyg6⟩) (HQ.out _ (by with_reducible assumption)) ?reg6
      case hyg6 => ((intro w hSw; (try dsimp only at hSw); go_simp); first | done | with_reducible rfl)
      (try simp only [Act.put, List.setIfInBounds_toArray, List.set_cons_zero, List.set_cons_succ])
      refine wpAnyH_ready (rs := [5]) (by kernel_rfl) (by simp) ?_
      refine AllReadyH.cons rfl (fun K hK => ?_) AllReadyH.nil
      go_simp
      go_wp2_with (first | (go_at_call 16; (with_reducible refine (HFR.out _ (by with_reducible assumption)).mono ?_); rintro e w20 ⟨rfl, hb20⟩; have hl20 := stepAny (by with_reducible assumption) hb20) | (go_at_call 15; (with_reducible refine (HE1.out _ (by with_reducible assumption)).mono ?_); rintro e w21 ⟨rfl, hb21⟩; have hl21 := stepAny (by with_reducible assumption) hb21) | (go_at_call 25; (with_reducible refine (HDC.out _ (by with_reducible assumption)).mono ?_); rintro e w22 ⟨aD, kD, rfl, hsD, hb22⟩; have hl22 := stepAny (by with_reducible assumption) hb22) | (go_at_call 26; (with_reducible refine (HRC.out _ (by with_reducible assumption)).mono ?_); rintro e w23 ⟨aE, kE, rfl, hsE, hb23⟩; have hl23 := stepAny (by with_reducible assumption) hb23) | (go_at_call 24; (with_reducible refine (HSB.out _ aD kD aE kE (hsD.below hb23 (Nat.le_refl _)) hsE).mono ?_); rintro e w24 ⟨rfl, hb24⟩; have hl24 := stepAny hl23 hb24) | (go_at_call 17; (with_reducible refine (HVA.out _ (by with_reducible assumption)).mono ?_); rintro e w25 ⟨rfl, hb25⟩; have hl25 := stepAny (by with_reducible assumption) hb25))
      refine hK.out _ _ (HQ.out _ (by with_reducible assumption)) (fun _ => ?_)
      clear hK K
      (try simp only [Act.put, List.setIfInBounds_toArray, List.set_cons_zero, List.set_cons_succ])
      refine wpAnyH_ready (rs := [7]) (by kernel_rfl) (by simp) ?_
      refine AllReadyH.cons rfl (fun K hK => ?_) AllReadyH.nil
      go_simp
      go_wp2_with (first | (go_at_call 16; (with_reducible refine (HFR.out _ (by with_reducible assumption)).mono ?_); rintro e w20 ⟨rfl, hb20⟩; have hl20 := stepAny (by with_reducible assumption) hb20) | (go_at_call 15; (with_reducible refine (HE1.out _ (by with_reducible assumption)).mono ?_); rintro e w21 ⟨rfl, hb21⟩; have hl21 := stepAny (by with_reducible assumption) hb21) | (go_at_call 25; (with_reducible refine (HDC.out _ (by with_reducible assumption)).mono ?_); rintro e w22 ⟨aD, kD, rfl, hsD, hb22⟩; have hl22 := stepAny (by with_reducible assumption) hb22) | (go_at_call 26; (with_reducible refine (HRC.out _ (by with_reducible assumption)).mono ?_); rintro e w23 ⟨aE, kE, rfl, hsE, hb23⟩; have hl23 := stepAny (by with_reducible assumption) hb23) | (go_at_call 24; (with_reducible refine (HSB.out _ aD kD aE kE (hsD.below hb23 (Nat.le_refl _)) hsE).mono ?_); rintro e w24 ⟨rfl, hb24⟩; have hl24 := stepAny hl23 hb24) | (go_at_call 17; (with_reducible refine (HVA.out _ (by with_reducible assumption)).mono ?_); rintro e w25 ⟨rfl, hb25⟩; have hl25 := stepAny (by with_reducible assumption) hb25))
      refine hK.out _ _ (HQ.out _ (by with_reducible assumption)) (fun _ => ?_)
      clear hK K
      (try simp only [Act.put, List.setIfInBounds_toArray, List.set_cons_zero, List.set_cons_succ])
      refine wpAnyH_take (i := 8) (oi := ⟨some 33, _, _, _, _, _⟩) (v := ?_) rfl (by kernel_rfl) (by kernel_rfl) (by kernel_rfl) (fun _ _ _ h => h) (Or.inl ⟨by rfl, ?hyg8⟩) (HQ.out _ (by with_reducible assumption)) ?reg8
      case hyg8 => ((intro w hSw; (try dsimp only at hSw); go_simp); first | done | with_reducible rfl)
      (try simp only [Act.put, List.setIfInBounds_toArray, List.set_cons_zero, List.set_cons_succ])
      refine wpAnyH_take (i := 9) (oi := ⟨some 34, _, _, _, _, _⟩) (v := ?_) rfl (by kernel_rfl) (by kernel_rfl) (by kernel_rfl) (fun _ _ _ h => h) (Or.inl ⟨by rfl, ?hyg9⟩) (HQ.out _ (by with_reducible assumption)) ?reg9
      case hyg9 => ((intro w hSw; (try dsimp only at hSw); go_simp); first | done | with_reducible rfl)
      (try simp only [Act.put, List.setIfInBounds_toArray, List.set_cons_zero, List.set_cons_succ])
      refine wpAnyH_take (i := 10) (oi := ⟨some 35, _, _, _, _, _⟩) (v := ?_) rfl (by kernel_rfl) (by kernel_rfl) (by kernel_rfl) (fun _ _ _ h => h) (Or.inl ⟨by rfl, ?hyg10⟩) (HQ.out _ (by with_reducible assumption)) ?reg10
      case hyg10 => ((intro w hSw; (try dsimp only at hSw); go_simp); first | done | with_reducible rfl)
      (try simp only [Act.put, List.setIfInBounds_toArray, List.set_cons_zero, List.set_cons_succ])
      refine wpAnyH_take (i := 12) (oi := ⟨some 37, _, _, _, _, _⟩) (v := ?_) rfl (by kernel_rfl) (by kernel_rfl) (by kernel_rfl) (fun _ _ _ h => h) (Or.inl ⟨by rfl, ?hyg12⟩) (HQ.out _ (by with_reducible assumption)) ?reg12
      case hyg12 => ((intro w hSw; (try dsimp only at hSw); go_simp); first | done | with_reducible rfl)
      (try simp only [Act.put, List.setIfInBounds_toArray, List.set_cons_zero, List.set_cons_succ])
      refine wpAnyH_ready (rs := [11]) (by kernel_rfl) (by simp) ?_
      refine AllReadyH.cons rfl (fun K hK => ?_) AllReadyH.nil
      go_simp
      go_wp2_with (first | (go_at_call 16; (with_reducible refine (HFR.out _ (by with_reducible assumption)).mono ?_); rintro e w20 ⟨rfl, hb20⟩; have hl20 := stepAny (by with_reducible assumption) hb20) | (go_at_call 15; (with_reducible refine (HE1.out _ (by with_reducible assumption)).mono ?_); rintro e w21 ⟨rfl, hb21⟩; have hl21 := stepAny (by with_reducible assumption) hb21) | (go_at_call 25; (with_reducible refine (HDC.out _ (by with_reducible assumption)).mono ?_); rintro e w22 ⟨aD, kD, rfl, hsD, hb22⟩; have hl22 := stepAny (by with_reducible assumption) hb22) | (go_at_call 26; (with_reducible refine (HRC.out _ (by with_reducible assumption)).mono ?_); rintro e w23 ⟨aE, kE, rfl, hsE, hb23⟩; have hl23 := stepAny (by with_reducible assumption) hb23) | (go_at_call 24; (with_reducible refine (HSB.out _ aD kD aE kE (hsD.below hb23 (Nat.le_refl _)) hsE).mono ?_); rintro e w24 ⟨rfl, hb24⟩; have hl24 := stepAny hl23 hb24) | (go_at_call 17; (with_reducible refine (HVA.out _ (by with_reducible assumption)).mono ?_); rintro e w25 ⟨rfl, hb25⟩; have hl25 := stepAny (by with_reducible assumption) hb25))
      refine hK.out _ _ (HQ.out _ (by with_reducible assumption)) (fun _ => ?_)
      clear hK K
      (try simp only [Act.put, List.setIfInBounds_toArray, List.set_cons_zero, List.set_cons_succ])
      refine wpAnyH_ready (rs := [13]) (by kernel_rfl) (by simp) ?_
      refine AllReadyH.cons rfl (fun K hK => ?_) AllReadyH.nil
      go_simp
      go_wp2_with (first | (go_at_call 16; (with_reducible refine (HFR.out _ (by with_reducible assumption)).mono ?_); rintro e w20 ⟨rfl, hb20⟩; have hl20 := stepAny (by with_reducible assumption) hb20) | (go_at_call 15; (with_reducible refine (HE1.out _ (by with_reducible assumption)).mono ?_); rintro e w21 ⟨rfl, hb21⟩; have hl21 := stepAny (by with_reducible assumption) hb21) | (go_at_call 25; (with_reducible refine (HDC.out _ (by with_reducible assumption)).mono ?_); rintro e w22 ⟨aD, kD, rfl, hsD, hb22⟩; have hl22 := stepAny (by with_reducible assumption) hb22) | (go_at_call 26; (with_reducible refine (HRC.out _ (by with_reducible assumption)).mono ?_); rintro e w23 ⟨aE, kE, rfl, hsE, hb23⟩; have hl23 := stepAny (by with_reducible assumption) hb23) | (go_at_call 24; (with_reducible refine (HSB.out _ aD kD aE kE (hsD.below hb23 (Nat.le_refl _)) hsE).mono ?_); rintro e w24 ⟨rfl, hb24⟩; have hl24 := stepAny hl23 hb24) | (go_at_call 17; (with_reducible refine (HVA.out _ (by with_reducible assumption)).mono ?_); rintro e w25 ⟨rfl, hb25⟩; have hl25 := stepAny (by with_reducible assumption) hb25))
      refine hK.out _ _ (HQ.out _ (by with_reducible assumption)) (fun _ => ?_)
      clear hK K
      (try simp only [Act.put, List.setIfInBounds_toArray, List.set_cons_zero, List.set_cons_succ])
      refine wpAnyH_ready (rs := [14]) (by kernel_rfl) (by simp) ?_
      refine AllReadyH.cons rfl (fun K hK => ?_) AllReadyH.nil
      go_simp
      go_wp2_with (first | (go_at_call 16; (with_reducible refine (HFR.out _ (by with_reducible assumption)).mono ?_); rintro e w20 ⟨rfl, hb20⟩; have hl20 := stepAny (by with_reducible assumption) hb20) | (go_at_call 15; (with_reducible refine (HE1.out _ (by with_reducible assumption)).mono ?_); rintro e w21 ⟨rfl, hb21⟩; have hl21 := stepAny (by with_reducible assumption) hb21) | (go_at_call 25; (with_reducible refine (HDC.out _ (by with_reducible assumption)).mono ?_); rintro e w22 ⟨aD, kD, rfl, hsD, hb22⟩; have hl22 := stepAny (by with_reducible assumption) hb22) | (go_at_call 26; (with_reducible refine (HRC.out _ (by with_reducible assumption)).mono ?_); rintro e w23 ⟨aE, kE, rfl, hsE, hb23⟩; have hl23 := stepAny (by with_reducible assumption) hb23) | (go_at_call 24; (with_reducible refine (HSB.out _ aD kD aE kE (hsD.below hb23 (Nat.le_refl _)) hsE).mono ?_); rintro e w24 ⟨rfl, hb24⟩; have hl24 := stepAny hl23 hb24) | (go_at_call 17; (with_reducible refine (HVA.out _ (by with_reducible assumption)).mono ?_); rintro e w25 ⟨rfl, hb25⟩; have hl25 := stepAny (by with_reducible assumption) hb25))
      refine hK.out _ _ (HQ.out _ (by with_reducible assumption)) (fun _ => ?_)
      clear hK K
      (try simp only [Act.put, List.setIfInBounds_toArray, List.set_cons_zero, List.set_cons_succ])
      refine wpAnyH_take (i := 15) (oi := ⟨some 40, _, _, _, _, _⟩) (v := ?_) rfl (by kernel_rfl) (by kernel_rfl) (by kernel_rfl) (fun _ _ _ h => h) (Or.inl ⟨by rfl, ?hyg15⟩) (HQ.out _ (by with_reducible assumption)) ?reg15
      case hyg15 => ((intro w hSw; (try dsimp only at hSw); go_simp); first | done | with_reducible rfl)
      (try simp only [Act.put, List.setIfInBounds_toArray, List.set_cons_zero, List.set_cons_succ])
      refine wpAnyH_take (i := 16) (oi := ⟨some 41, _, _, _, _, _⟩) (v := ?_) rfl (by kernel_rfl) (by kernel_rfl) (by kernel_rfl) (fun _ _ _ h => h) (Or.inl ⟨by rfl, ?hyg16⟩) (HQ.out _ (by with_reducible assumption)) ?reg16
      case hyg16 => ((intro w hSw; (try dsimp only at hSw); go_simp); first | done | with_reducible rfl)
      (try simp only [Act.put, List.setIfInBounds_toArray, List.set_cons_zero, List.set_cons_succ])
      refine wpAnyH_take (i := 17) (oi := ⟨some 42, _, _, _, _, _⟩) (v := ?_) rfl (by kernel_rfl) (by kernel_rfl) (by kernel_rfl) (fun _ _ _ h => h) (Or.inl ⟨by rfl, ?hyg17⟩) (HQ.out _ (by with_reducible assumption)) ?reg17
      case hyg17 => ((intro w hSw; (try dsimp only at hSw); go_simp); first | done | with_reducible rfl)
      (try simp only [Act.put, List.setIfInBounds_toArray, List.set_cons_zero, List.set_cons_succ])
      refine wpAnyH_take (i := 18) (oi := ⟨some 43, _, _, _, _, _⟩) (v := ?_) rfl (by kernel_rfl) (by kernel_rfl) (by kernel_rfl) (fun _ _ _ h => h) (Or.inl ⟨by rfl, ?hyg18⟩) (HQ.out _ (by with_reducible assumption)) ?reg18
      case hyg18 => ((intro w hSw; (try dsimp only at hSw); go_simp); first | done | with_reducible rfl)
      (try simp only [Act.put, List.setIfInBounds_toArray, List.set_cons_zero, List.set_cons_succ])
      refine wpAnyH_take (i := 19) (oi := ⟨some 44, _, _, _, _, _⟩) (v := ?_) rfl (by kernel_rfl) (by kernel_rfl) (by kernel_rfl) (fun _ _ _ h => h) (Or.inl ⟨by rfl, ?hyg19⟩) (HQ.out _ (by with_reducible assumption)) ?reg19
      case hyg19 => ((intro w hSw; (try dsimp only at hSw); go_simp); first | done | with_reducible rfl)
      (try simp only [Act.put, List.setIfInBounds_toArray, List.set_cons_zero, List.set_cons_succ])
      refine wpAnyH_take (i := 20) (oi := ⟨some 45, _, _, _, _, _⟩) (v := ?_) rfl (by kernel_rfl) (by kernel_rfl) (by kernel_rfl) (fun _ _ _ h => h) (Or.inl ⟨by rfl, ?hyg20⟩) (HQ.out _ (by with_reducible assumption)) ?reg20
      case hyg20 => ((intro w hSw; (try dsimp only at hSw); go_simp); first | done | with_reducible rfl)
      (try simp only [Act.put, List.setIfInBounds_toArray, List.set_cons_zero, List.set_cons_succ])
      refine wpAnyH_ready (rs := [21]) (by kernel_rfl) (by simp) ?_
      refine AllReadyH.cons rfl (fun K hK => ?_) AllReadyH.nil
      go_simp
      go_wp2_with (first | (go_at_call 16; (with_reducible refine (HFR.out _ (by with_reducible assumption)).mono ?_); rintro e w20 ⟨rfl, hb20⟩; have hl20 := stepAny (by with_reducible assumption) hb20) | (go_at_call 15; (with_reducible refine (HE1.out _ (by with_reducible assumption)).mono ?_); rintro e w21 ⟨rfl, hb21⟩; have hl21 := stepAny (by with_reducible assumption) hb21) | (go_at_call 25; (with_reducible refine (HDC.out _ (by with_reducible assumption)).mono ?_); rintro e w22 ⟨aD, kD, rfl, hsD, hb22⟩; have hl22 := stepAny (by with_reducible assumption) hb22) | (go_at_call 26; (with_reducible refine (HRC.out _ (by with_reducible assumption)).mono ?_); rintro e w23 ⟨aE, kE, rfl, hsE, hb23⟩; have hl23 := stepAny (by with_reducible assumption) hb23) | (go_at_call 24; (with_reducible refine (HSB.out _ aD kD aE kE (hsD.below hb23 (Nat.le_refl _)) hsE).mono ?_); rintro e w24 ⟨rfl, hb24⟩; have hl24 := stepAny hl23 hb24) | (go_at_call 17; (with_reducible refine (HVA.out _ (by with_reducible assumption)).mono ?_); rintro e w25 ⟨rfl, hb25⟩; have hl25 := stepAny (by with_reducible assumption) hb25))
      refine hK.out _ _ (HQ.out _ (by with_reducible assumption)) (fun _ => ?_)
      clear hK K
      (try simp only [Act.put, List.setIfInBounds_toArray, List.set_cons_zero, List.set_cons_succ])
      refine wpAnyH_take (i := 22) (oi := ⟨some 47, _, _, _, _, _⟩) (v := ?_) rfl (by kernel_rfl) (by kernel_rfl) (by kernel_rfl) (fun _ _ _ h => h) (Or.inl ⟨by rfl, ?hyg22⟩) (HQ.out _ (by with_reducible assumption)) ?reg22
      case hyg22 => ((intro w hSw; (try dsimp only at hSw); go_simp); first | done | with_reducible rfl)
      (try simp only [Act.put, List.setIfInBounds_toArray, List.set_cons_zero, List.set_cons_succ])
      refine wpAnyH_take (i := 23) (oi := ⟨some 48, _, _, _, _, _⟩) (v := ?_) rfl (by kernel_rfl) (by kernel_rfl) (by kernel_rfl) (fun _ _ _ h => h) (Or.inl ⟨by rfl, ?hyg23⟩) (HQ.out _ (by with_reducible assumption)) ?reg23
      case hyg23 => ((intro w hSw; (try dsimp only at hSw); go_simp); first | done | with_reducible rfl)
      (try simp only [Act.put, List.setIfInBounds_toArray, List.set_cons_zero, List.set_cons_succ])
      refine wpAnyH_take (i := 24) (oi := ⟨some 2, _, _, _, _, _⟩) (v := ?_) rfl (by kernel_rfl) (by kernel_rfl) (by kernel_rfl) (fun _ _ _ h => h) (Or.inl ⟨by rfl, ?hyg24⟩) (HQ.out _ (by with_reducible assumption)) ?reg24
      case hyg24 => ((intro w hSw; (try dsimp only at hSw); go_simp); first | done | with_reducible rfl)
      (try simp only [Act.put, List.setIfInBounds_toArray, List.set_cons_zero, List.set_cons_succ])
      refine wpAnyH_done (by kernel_rfl) ?_ _
      refine NoPanic.normal ?_
      go_wp2_with fail
      go_ret
      exact ⟨rfl, stepAny HL5.out (by with_reducible assumption)⟩
    · have hne : (ec != 0) = true := by simpa using hec
      clear HV2
      have hee : (ec == ec) = true := by simp
      clear hec
      have hl0 := low_drew W5
      refine wp_region_noPanic ?_
      refine wp_region_held_drew (S := fun w' => w'.cell? ⟨b3, 0, none⟩ = some (.slice a1 nB k1) ∧ w'.cell? ⟨b3, 1, none⟩ = some (.bool false) ∧ w'.cell? ⟨b3, 2, none⟩ = some (.int .i64 0) ∧ w'.cell? ⟨b3, 3, none⟩ = some (.int .i64 0) ∧ w'.cell? ⟨b3, 4, none⟩ = some (.int .i64 0) ∧ w'.cell? ⟨b3, 5, none⟩ = some (.slice a2 0 k2) ∧ w'.cell? ⟨b3, 6, none⟩ = some (.int .i64 0) ∧ w'.cell? ⟨b3, 7, none⟩ = some (.int .i64 0) ∧ w'.cell? ⟨b3, 8, none⟩ = some (.int .i64 0) ∧ w'.cell? ⟨b3, 9, none⟩ = some (.slice a3 0 k3) ∧ w'.cell? ⟨b5, 0, none⟩ = some (.slice aR nB kR) ∧ w'.cell? ⟨b5, 1, none⟩ = some (.bool false) ∧ w'.cell? ⟨b5, 2, none⟩ = some (.int .i64 0) ∧ w'.cell? ⟨b5, 3, none⟩ = some (.int .i64 0) ∧ w'.cell? ⟨b5, 4, none⟩ = some (.int .i64 0) ∧ w'.cell? ⟨b5, 5, none⟩ = some (.slice none 0 0) ∧ w'.cell? ⟨b5, 6, none⟩ = some (.int .i64 0) ∧ w'.cell? ⟨b5, 7, none⟩ = some (.int .i64 0) ∧ w'.cell? ⟨b5, 8, none⟩ = some (.int .i64 0) ∧ w'.cell? ⟨b5, 9, none⟩ = some (.slice none 0 0)) (by kernel_rfl) (HQ.out _ hl0) (fun _ => ?_)
      refine wpAnyH_take (i := 0) (oi := ⟨some 25, _, _, _, _, _⟩) (v := ?_) rfl (by kernel_rfl) (by kernel_rfl) (by kernel_rfl) (fun _ _ _ h => h) (Or.inl ⟨by rfl, ?hyb0⟩) (HQ.out _ (by with_reducible assumption)) ?reb0
      case hyb0 => ((intro w hSw; (try dsimp only at hSw); go_simp); first | done | with_reducible rfl)
      (try simp only [Act.put, List.setIfInBounds_toArray, List.set_cons_zero, List.set_cons_succ])
      refine wpAnyH_take (i := 1) (oi := ⟨some 26, _, _, _, _, _⟩) (v := ?_) rfl (by kernel_rfl) (by kernel_rfl) (by kernel_rfl) (fun _ _ _ h => h) (Or.inl ⟨by rfl, ?hyb1⟩) (HQ.out _ (by with_reducible assumption)) ?reb1
      case hyb1 => ((intro w hSw; (try dsimp only at hSw); go_simp); first | done | with_reducible rfl)
      (try simp only [Act.put, List.setIfInBounds_toArray, List.set_cons_zero, List.set_cons_succ])
      refine wpAnyH_take (i := 2) (oi := ⟨some 27, _, _, _, _, _⟩) (v := ?_) rfl (by kernel_rfl) (by kernel_rfl) (by kernel_rfl) (fun _ _ _ h => h) (Or.inl ⟨by rfl, ?hyb2⟩) (HQ.out _ (by with_reducible assumption)) ?reb2
      case hyb2 => ((intro w hSw; (try dsimp only at hSw); go_simp); first | done | with_reducible rfl)
      (try simp only [Act.put, List.setIfInBounds_toArray, List.set_cons_zero, List.set_cons_succ])
      refine wpAnyH_take (i := 3) (oi := ⟨some 28, _, _, _, _, _⟩) (v := ?_) rfl (by kernel_rfl) (by kernel_rfl) (by kernel_rfl) (fun _ _ _ h => h) (Or.inl ⟨by rfl, ?hyb3⟩) (HQ.out _ (by with_reducible assumption)) ?reb3
      case hyb3 => ((intro w hSw; (try dsimp only at hSw); go_simp); first | done | with_reducible rfl)
      (try simp only [Act.put, List.setIfInBounds_toArray, List.set_cons_zero, List.set_cons_succ])
      refine wpAnyH_take (i := 4) (oi := ⟨some 29, _, _, _, _, _⟩) (v := ?_) rfl (by kernel_rfl) (by kernel_rfl) (by kernel_rfl) (fun _ _ _ h => h) (Or.inl ⟨by rfl, ?hyb4⟩) (HQ.out _ (by with_reducible assumption)) ?reb4
      case hyb4 => ((intro w hSw; (try dsimp only at hSw); go_simp); first | done | with_reducible rfl)
      (try simp only [Act.put, List.setIfInBounds_toArray, List.set_cons_zero, List.set_cons_succ])
      refine wpAnyH_take (i := 6) (oi := ⟨some 31, _, _, _, _, _⟩) (v := ?_) rfl (by kernel_rfl) (by kernel_rfl) (by kernel_rfl) (fun _ _ _ h => h) (Or.inl ⟨by rfl, ?hyb6⟩) (HQ.out _ (by with_reducible assumption)) ?reb6
      case hyb6 => ((intro w hSw; (try dsimp only at hSw); go_simp); first | done | with_reducible rfl)
      (try simp only [Act.put, List.setIfInBounds_toArray, List.set_cons_zero, List.set_cons_succ])
      refine wpAnyH_ready (rs := [5]) (by kernel_rfl) (by simp) ?_
      refine AllReadyH.cons rfl (fun K hK => ?_) AllReadyH.nil
      go_simp
      go_wp2_with (first | (go_at_call 16; (with_reducible refine (HFR.out _ (by with_reducible assumption)).mono ?_); rintro e w20 ⟨rfl, hb20⟩; have hl20 := stepAny (by with_reducible assumption) hb20) | (go_at_call 15; (with_reducible refine (HE1.out _ (by with_reducible assumption)).mono ?_); rintro e w21 ⟨rfl, hb21⟩; have hl21 := stepAny (by with_reducible assumption) hb21) | (go_at_call 25; (with_reducible refine (HDC.out _ (by with_reducible assumption)).mono ?_); rintro e w22 ⟨aD, kD, rfl, hsD, hb22⟩; have hl22 := stepAny (by with_reducible assumption) hb22) | (go_at_call 26; (with_reducible refine (HRC.out _ (by with_reducible assumption)).mono ?_); rintro e w23 ⟨aE, kE, rfl, hsE, hb23⟩; have hl23 := stepAny (by with_reducible assumption) hb23) | (go_at_call 24; (with_reducible refine (HSB.out _ aD kD aE kE (hsD.below hb23 (Nat.le_refl _)) hsE).mono ?_); rintro e w24 ⟨rfl, hb24⟩; have hl24 := stepAny hl23 hb24))
      refine hK.out _ _ (HQ.out _ (by with_reducible assumption)) (fun _ => ?_)
      clear hK K
      (try simp only [Act.put, List.setIfInBounds_toArray, List.set_cons_zero, List.set_cons_succ])
      refine wpAnyH_ready (rs := [7]) (by kernel_rfl) (by simp) ?_
      refine AllReadyH.cons rfl (fun K hK => ?_) AllReadyH.nil
      go_simp
      go_wp2_with (first | (go_at_call 16; (with_reducible refine (HFR.out _ (by with_reducible assumption)).mono ?_); rintro e w20 ⟨rfl, hb20⟩; have hl20 := stepAny (by with_reducible assumption) hb20) | (go_at_call 15; (with_reducible refine (HE1.out _ (by with_reducible assumption)).mono ?_); rintro e w21 ⟨rfl, hb21⟩; have hl21 := stepAny (by with_reducible assumption) hb21) | (go_at_call 25; (with_reducible refine (HDC.out _ (by with_reducible assumption)).mono ?_); rintro e w22 ⟨aD, kD, rfl, hsD, hb22⟩; have hl22 := stepAny (by with_reducible assumption) hb22) | (go_at_call 26; (with_reducible refine (HRC.out _ (by with_reducible assumption)).mono ?_); rintro e w23 ⟨aE, kE, rfl, hsE, hb23⟩; have hl23 := stepAny (by with_reducible assumption) hb23) | (go_at_call 24; (with_reducible refine (HSB.out _ aD kD aE kE (hsD.below hb23 (Nat.le_refl _)) hsE).mono ?_); rintro e w24 ⟨rfl, hb24⟩; have hl24 := stepAny hl23 hb24))
      refine hK.out _ _ (HQ.out _ (by with_reducible assumption)) (fun _ => ?_)
      clear hK K
      (try simp only [Act.put, List.setIfInBounds_toArray, List.set_cons_zero, List.set_cons_succ])
      refine wpAnyH_take (i := 8) (oi := ⟨some 33, _, _, _, _, _⟩) (v := ?_) rfl (by kernel_rfl) (by kernel_rfl) (by kernel_rfl) (fun _ _ _ h => h) (Or.inl ⟨by rfl, ?hyb8⟩) (HQ.out _ (by with_reducible assumption)) ?reb8
      case hyb8 => ((intro w hSw; (try dsimp only at hSw); go_simp); first | done | with_reducible rfl)
      (try simp only [Act.put, List.setIfInBounds_toArray, List.set_cons_zero, List.set_cons_succ])
      refine wpAnyH_take (i := 9) (oi := ⟨some 34, _, _, _, _, _⟩) (v := ?_) rfl (by kernel_rfl) (by kernel_rfl) (by kernel_rfl) (fun _ _ _ h => h) (Or.inl ⟨by rfl, ?hyb9⟩) (HQ.out _ (by with_reducible assumption)) ?reb9
      case hyb9 => ((intro w hSw; (try dsimp only at hSw); go_simp); first | done | with_reducible rfl)
      (try simp only [Act.put, List.setIfInBounds_toArray, List.set_cons_zero, List.set_cons_succ])
      refine wpAnyH_take (i := 10) (oi := ⟨some 35, _, _, _, _, _⟩) (v := ?_) rfl (by kernel_rfl) (by kernel_rfl) (by kernel_rfl) (fun _ _ _ h => h) (Or.inl ⟨by rfl, ?hyb10⟩) (HQ.out _ (by with_reducible assumption)) ?reb10
      case hyb10 => ((intro w hSw; (try dsimp only at hSw); go_simp); first | done | with_reducible rfl)
      (try simp only [Act.put, List.setIfInBounds_toArray, List.set_cons_zero, List.set_cons_succ])
      refine wpAnyH_take (i := 12) (oi := ⟨some 37, _, _, _, _, _⟩) (v := ?_) rfl (by kernel_rfl) (by kernel_rfl) (by kernel_rfl) (fun _ _ _ h => h) (Or.inl ⟨by rfl, ?hyb12⟩) (HQ.out _ (by with_reducible assumption)) ?reb12
      case hyb12 => ((intro w hSw; (try dsimp only at hSw); go_simp); first | done | with_reducible rfl)
      (try simp only [Act.put, List.setIfInBounds_toArray, List.set_cons_zero, List.set_cons_succ])
      refine wpAnyH_ready (rs := [11]) (by kernel_rfl) (by simp) ?_
      refine AllReadyH.cons rfl (fun K hK => ?_) AllReadyH.nil
      go_simp
      go_wp2_with (first | (go_at_call 16; (with_reducible refine (HFR.out _ (by with_reducible assumption)).mono ?_); rintro e w20 ⟨rfl, hb20⟩; have hl20 := stepAny (by with_reducible assumption) hb20) | (go_at_call 15; (with_reducible refine (HE1.out _ (by with_reducible assumption)).mono ?_); rintro e w21 ⟨rfl, hb21⟩; have hl21 := stepAny (by with_reducible assumption) hb21) | (go_at_call 25; (with_reducible refine (HDC.out _ (by with_reducible assumption)).mono ?_); rintro e w22 ⟨aD, kD, rfl, hsD, hb22⟩; have hl22 := stepAny (by with_reducible assumption) hb22) | (go_at_call 26; (with_reducible refine (HRC.out _ (by with_reducible assumption)).mono ?_); rintro e w23 ⟨aE, kE, rfl, hsE, hb23⟩; have hl23 := stepAny (by with_reducible assumption) hb23) | (go_at_call 24; (with_reducible refine (HSB.out _ aD kD aE kE (hsD.below hb23 (Nat.le_refl _)) hsE).mono ?_); rintro e w24 ⟨rfl, hb24⟩; have hl24 := stepAny hl23 hb24))
      refine hK.out _ _ (HQ.out _ (by with_reducible assumption)) (fun _ => ?_)
      clear hK K
      (try simp only [Act.put, List.setIfInBounds_toArray, List.set_cons_zero, List.set_cons_succ])
      refine wpAnyH_ready (rs := [13]) (by kernel_rfl) (by simp) ?_
      refine AllReadyH.cons rfl (fun K hK => ?_) AllReadyH.nil
      go_simp
      go_wp2_with (first | (go_at_call 16; (with_reducible refine (HFR.out _ (by with_reducible assumption)).mono ?_); rintro e w20 ⟨rfl, hb20⟩; have hl20 := stepAny (by with_reducible assumption) hb20) | (go_at_call 15; (with_reducible refine (HE1.out _ (by with_reducible assumption)).mono ?_); rintro e w21 ⟨rfl, hb21⟩; have hl21 := stepAny (by with_reducible assumption) hb21) | (go_at_call 25; (with_reducible refine (HDC.out _ (by with_reducible assumption)).mono ?_); rintro e w22 ⟨aD, kD, rfl, hsD, hb22⟩; have hl22 := stepAny (by with_reducible assumption) hb22) | (go_at_call 26; (with_reducible refine (HRC.out _ (by with_reducible assumption)).mono ?_); rintro e w23 ⟨aE, kE, rfl, hsE, hb23⟩; have hl23 := stepAny (by with_reducible assumption) hb23) | (go_at_call 24; (with_reducible refine (HSB.out _ aD kD aE kE (hsD.below hb23 (Nat.le_refl _)) hsE).mono ?_); rintro e w24 ⟨rfl, hb24⟩; have hl24 := stepAny hl23 hb24))
      refine hK.out _ _ (HQ.out _ (by with_reducible assumption)) (fun _ => ?_)
      clear hK K
      (try simp only [Act.put, List.setIfInBounds_toArray, List.set_cons_zero, List.set_cons_succ])
      refine wpAnyH_ready (rs := [14]) (by kernel_rfl) (by simp) ?_
      refine AllReadyH.cons rfl (fun K hK => ?_) AllReadyH.nil
      go_simp
      go_wp2_with (first | (go_at_call 16; (with_reducible refine (HFR.out _ (by with_reducible assumption)).mono ?_); rintro e w20 ⟨rfl, hb20⟩; have hl20 := stepAny (by with_reducible assumption) hb20) | (go_at_call 15; (with_reducible refine (HE1.out _ (by with_reducible assumption)).mono ?_); rintro e w21 ⟨rfl, hb21⟩; have hl21 := stepAny (by with_reducible assumption) hb21) | (go_at_call 25; (with_reducible refine (HDC.out _ (by with_reducible assumption)).mono ?_); rintro e w22 ⟨aD, kD, rfl, hsD, hb22⟩; have hl22 := stepAny (by with_reducible assumption) hb22) | (go_at_call 26; (with_reducible refine (HRC.out _ (by with_reducible assumption)).mono ?_); rintro e w23 ⟨aE, kE, rfl, hsE, hb23⟩; have hl23 := stepAny (by with_reducible assumption) hb23) | (go_at_call 24; (with_reducible refine (HSB.out _ aD kD aE kE (hsD.below hb23 (Nat.le_refl _)) hsE).mono ?_); rintro e w24 ⟨rfl, hb24⟩; have hl24 := stepAny hl23 hb24))
      refine hK.out _ _ (HQ.out _ (by with_reducible assumption)) (fun _ => ?_)
      clear hK K
      (try simp only [Act.put, List.setIfInBounds_toArray, List.set_cons_zero, List.set_cons_succ])
      refine wpAnyH_take (i := 15) (oi := ⟨some 40, _, _, _, _, _⟩) (v := ?_) rfl (by kernel_rfl) (by kernel_rfl) (by kernel_rfl) (fun _ _ _ h => h) (Or.inl ⟨by rfl, ?hyb15⟩) (HQ.out _ (by with_reducible assumption)) ?reb15
      case hyb15 => ((intro w hSw; (try dsimp only at hSw); go_simp); first | done | with_reducible rfl)
      (try simp only [Act.put, List.setIfInBounds_toArray, List.set_cons_zero, List.set_cons_succ])
      refine wpAnyH_take (i := 16) (oi := ⟨some 41, _, _, _, _, _⟩) (v := ?_) rfl (by kernel_rfl) (by kernel_rfl) (by kernel_rfl) (fun _ _ _ h => h) (Or.inl ⟨by rfl, ?hyb16⟩) (HQ.out _ (by with_reducible assumption)) ?reb16
      case hyb16 => ((intro w hSw; (try dsimp only at hSw); go_simp); first | done | with_reducible rfl)
      (try simp only [Act.put, List.setIfInBounds_toArray, List.set_cons_zero, List.set_cons_succ])
      refine wpAnyH_take (i := 17) (oi := ⟨some 42, _, _, _, _, _⟩) (v := ?_) rfl (by kernel_rfl) (by kernel_rfl) (by kernel_rfl) (fun _ _ _ h => h) (Or.inl ⟨by rfl, ?hyb17⟩) (HQ.out _ (by with_reducible assumption)) ?reb17
      case hyb17 => ((intro w hSw; (try dsimp only at hSw); go_simp); first | done | with_reducible rfl)
      (try simp only [Act.put, List.setIfInBounds_toArray, List.set_cons_zero, List.set_cons_succ])
      refine wpAnyH_take (i := 18) (oi := ⟨some 43, _, _, _, _, _⟩) (v := ?_) rfl (by kernel_rfl) (by kernel_rfl) (by kernel_rfl) (fun _ _ _ h => h) (Or.inl ⟨by rfl, ?hyb18⟩) (HQ.out _ (by with_reducible assumption)) ?reb18
      case hyb18 => ((intro w hSw; (try dsimp only at hSw); go_simp); first | done | with_reducible rfl)
      (try simp only [Act.put, List.setIfInBounds_toArray, List.set_cons_zero, List.set_cons_succ])
      refine wpAnyH_take (i := 19) (oi := ⟨some 44, _, _, _, _, _⟩) (v := ?_) rfl (by kernel_rfl) (by kernel_rfl) (by kernel_rfl) (fun _ _ _ h => h) (Or.inl ⟨by rfl, ?hyb19⟩) (HQ.out _ (by with_reducible assumption)) ?reb19
      case hyb19 => ((intro w hSw; (try dsimp only at hSw); go_simp); first | done | with_reducible rfl)
      (try simp only [Act.put, List.setIfInBounds_toArray, List.set_cons_zero, List.set_cons_succ])
      refine wpAnyH_take (i := 20) (oi := ⟨some 45, _, _, _, _, _⟩) (v := undef) rfl (by kernel_rfl) (by kernel_rfl) (by kernel_rfl) (fun _ _ _ h => h) (Or.inr ⟨by rfl, rfl⟩) (HQ.out _ (by with_reducible assumption)) ?_
      (try simp only [Act.put, List.setIfInBounds_toArray, List.set_cons_zero, List.set_cons_succ])
      refine wpAnyH_take (i := 21) (oi := ⟨some 46, _, _, _, _, _⟩) (v := undef) rfl (by kernel_rfl) (by kernel_rfl) (by kernel_rfl) (fun _ _ _ h => h) (Or.inr ⟨by rfl, rfl⟩) (HQ.out _ (by with_reducible assumption)) ?_
      (try simp only [Act.put, List.setIfInBounds_toArray, List.set_cons_zero, List.set_cons_succ])
      refine wpAnyH_take (i := 22) (oi := ⟨some 47, _, _, _, _, _⟩) (v := ?_) rfl (by kernel_rfl) (by kernel_rfl) (by kernel_rfl) (fun _ _ _ h => h) (Or.inl ⟨by rfl, ?hyb22⟩) (HQ.out _ (by with_reducible assumption)) ?reb22
      case hyb22 => ((intro w hSw; (try dsimp only at hSw); go_simp); first | done | with_reducible rfl)
      (try simp only [Act.put, List.setIfInBounds_toArray, List.set_cons_zero, List.set_cons_succ])
      refine wpAnyH_take (i := 23) (oi := ⟨some 48, _, _, _, _, _⟩) (v := ?_) rfl (by kernel_rfl) (by kernel_rfl) (by kernel_rfl) (fun _ _ _ h => h) (Or.inl ⟨by rfl, ?hyb23⟩) (HQ.out _ (by with_reducible assumption)) ?reb23
      case hyb23 => ((intro w hSw; (try dsimp only at hSw); go_simp); first | done | with_reducible rfl)
      (try simp only [Act.put, List.setIfInBounds_toArray, List.set_cons_zero, List.set_cons_succ])
      refine wpAnyH_take (i := 24) (oi := ⟨some 2, _, _, _, _, _⟩) (v := ?_) rfl (by kernel_rfl) (by kernel_rfl) (by kernel_rfl) (fun _ _ _ h => h) (Or.inl ⟨by rfl, ?hyb24⟩) (HQ.out _ (by with_reducible assumption)) ?reb24
      case hyb24 => ((intro w hSw; (try dsimp only at hSw); go_simp); first | done | with_reducible rfl)
      (try simp only [Act.put, List.setIfInBounds_toArray, List.set_cons_zero, List.set_cons_succ])
      refine wpAnyH_done (by kernel_rfl) ?_ _
      refine NoPanic.normal ?_
      go_wp2_with fail
      go_ret
      exact ⟨rfl, stepAny HL5.out (by with_reducible assumption)⟩
end Go.Proofs.Yteeoonoccklhmaa

