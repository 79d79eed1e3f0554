/-
  The walks of Few and Valid and check, of frames and of the reference.
-/
import Derived.Test.YtkgheilaleekdaaIdx
import Derived.Test.YtkgheilaleekdaaSpec
namespace Go.Proofs.Ytkgheilaleekdaa
open Go.RowKit

theorem lenNe {n m : Nat} (h : n ≠ m) : ((n : Int) != (m : Int)) = true := by rw [bne_iff_ne]; omega
theorem lenEq {n m : Nat} (h : n = m) : ((n : Int) != (m : Int)) = false := by rw [h]; simp

set_option maxHeartbeats 400000 in
theorem rfew_w {v : Value} {ps : List (List UInt8)} {w : World} (hv : Pg w v ps) :
    Calls Try.prog 11 #[.agg #[v]] w fun e w' => e = .returned (.bool (Fr.few ps)) ∧ Below w.heap.size w w' := by
  obtain ⟨a, cap, rfl, hc, hcm, hna, hel⟩ := hv.open
  have HE := Lib.hid hel
  clear hel hv
  unfold maxLen at hcm
  go_enter Try.func11, Try.ntmps11
  go_wp2
  go_loop [3] (fun s3 => ∃ k : Nat, s3 = .int .i64 k ∧ k ≤ ps.length ∧ Hid (∀ j (hj : j < ps.length), j < k → ps[j].length ≤ 256)) (fun s3 => ps.length - (intOf s3).toNat)
  case atStart => exact ⟨0, rfl, Nat.zero_le _, fun j _ h => absurd h (Nat.not_lt_zero _)⟩
  case round =>
    obtain ⟨k, rfl, hk, HN⟩ := hrel
    by_cases hlt : k < ps.length
    · obtain ⟨b, off, a', c', rfl, hb, hck, _⟩ := HE.out k hlt
      have f1 : (0 : Int) ≤ (k : Int) := by omega
      have f2 : (k : Int) < (ps.length : Int) := by omega
      by_cases hg : 256 < ps[k].length
      · have HF := Lib.hid (Fr.few_page hlt hg)
        have f3 : (256 : Int) < (ps[k].length : Int) := by omega
        go_wp2
        go_ret
        exact ⟨ret_bool HF.out.symm, (Below.refl _ _).alloc (Nat.le_refl _) _⟩
      · have HN2 : Hid (∀ j (hj : j < ps.length), j < k + 1 → ps[j].length ≤ 256) := fun j hj hjk => by
          by_cases e : j = k
          · subst e; omega
          · exact HN.out j hj (by omega)
        have f3 : (ps[k].length : Int) ≤ 256 := by omega
        go_wp2
        go_round
        case rel => exact ⟨k + 1, by go_num, by omega, HN2⟩
        case measure => simp [intOf]; omega
    · have HN2 : Hid (∀ j (hj : j < ps.length), ps[j].length ≤ 256) := fun j hj => HN.out j hj (by omega)
      go_wp2
      go_ret
      refine ⟨ret_bool ?_, (Below.refl _ _).alloc (Nat.le_refl _) _⟩
      rw [Bool.eq_iff_iff, Fr.few_iff]
      rw [decide_eq_true_iff]
      exact ⟨fun h => ⟨by omega, HN2.out⟩, fun h => by omega⟩

set_option maxHeartbeats 400000 in
theorem rvalid_w {v : Value} {ps : List (List UInt8)} {w : World} (hv : Pg w v ps) :
    Calls Try.prog 16 #[.agg #[v]] w fun e w' => e = .returned (.bool (Fr.valid ps)) ∧ Below w.heap.size w w' := by
  obtain ⟨a, cap, rfl, hc, hcm, hna, hel⟩ := hv.open
  have HE := Lib.hid hel
  clear hel hv
  unfold maxLen at hcm
  go_enter Try.func16, Try.ntmps16
  go_wp2
  go_loop [3] (fun s3 => ∃ k : Nat, s3 = .int .i64 k ∧ k ≤ ps.length ∧ Hid (∀ j (hj : j < ps.length), j < k → ps[j].length = 128)) (fun s3 => ps.length - (intOf s3).toNat)
  case atStart => exact ⟨0, rfl, Nat.zero_le _, fun j _ h => absurd h (Nat.not_lt_zero _)⟩
  case round =>
    obtain ⟨k, rfl, hk, HN⟩ := hrel
    by_cases hlt : k < ps.length
    · obtain ⟨b, off, a', c', rfl, hb, hck, _⟩ := HE.out k hlt
      have f1 : (0 : Int) ≤ (k : Int) := by omega
      have f2 : (k : Int) < (ps.length : Int) := by omega
      by_cases hg : ps[k].length = 128
      · have HN2 : Hid (∀ j (hj : j < ps.length), j < k + 1 → ps[j].length = 128) := fun j hj hjk => by
          by_cases e : j = k
          · subst e; exact hg
          · exact HN.out j hj (by omega)
        have f3 : ((ps[k].length : Int) != 128) = false := lenEq hg
        clear hg
        go_wp2
        go_round
        case rel => exact ⟨k + 1, by go_num, by omega, HN2⟩
        case measure => simp [intOf]; omega
      · have HF := Lib.hid (Fr.valid_page hlt hg)
        have f3 : ((ps[k].length : Int) != 128) = true := lenNe hg
        clear hg
        go_wp2
        go_ret
        exact ⟨ret_bool HF.out.symm, (Below.refl _ _).alloc (Nat.le_refl _) _⟩
    · have HN2 : Hid (∀ j (hj : j < ps.length), ps[j].length = 128) := fun j hj => HN.out j hj (by omega)
      go_wp2
      go_ret
      refine ⟨ret_bool ?_, (Below.refl _ _).alloc (Nat.le_refl _) _⟩
      rw [Bool.eq_iff_iff, Fr.valid_iff, beq_iff_eq]
      exact ⟨fun h => ⟨by omega, HN2.out⟩, fun h => by omega⟩

set_option maxHeartbeats 400000 in
theorem fvalid1_w (a : Option Addr) (m c : Nat) (w : World) : Calls Try.prog 38 #[.slice a m c] w fun e w' => e = .returned (.bool ((m : Int) != 128)) ∧ w = w' := by
  go_enter Try.func38, Try.ntmps38
  go_wp2
  go_ret
  exact ⟨rfl, rfl⟩

set_option maxHeartbeats 400000 in
theorem valid_w {v : Value} {ps : List (List UInt8)} {w : World} (hv : Pg w v ps) :
    Calls Try.prog 23 #[.agg #[v]] w fun e w' => e = .returned (.bool (Fr.valid ps)) ∧ Below w.heap.size w w' := by
  obtain ⟨vs, ⟨a, cap, rfl, hc, hcm, hna, hrd⟩, hl, he⟩ := hv
  unfold maxLen at hcm
  have eg := enters_of Try.func38 (by kernel_rfl) rfl
  have HB : Hid (Below w.heap.size w (w.alloc (.cells #[.slice a vs.length cap] 30 (0, 0)))) := (Below.refl _ _).alloc (Nat.le_refl _) _
  have HX : Hid (Calls Try.prog 37 #[.slice a vs.length cap, .func (.func 38) #[] #[]] (w.alloc (.cells #[.slice a vs.length cap] 30 (0, 0))) fun e w' => e = .returned (.bool (Ix.any (fun k => (ps.getD k []).length != 128) vs.length)) ∧ w.alloc (.cells #[.slice a vs.length cap] 30 (0, 0)) = w') := by
    refine (containsFunc_pg id a cap vs 38 #[] (fun k => (ps.getD k []).length != 128) (fun _ W => w.alloc (.cells #[.slice a vs.length cap] 30 (0, 0)) = W) _ (by omega) eg ?_ rfl ?_).mono ?_
    · rintro k W rfl
      exact hrd.below HB.out (Nat.le_refl _)
    · rintro k W hk rfl
      obtain ⟨a', c', e1, _⟩ := he k hk (by omega)
      have ep : ps.getD k [] = ps[k]'(by omega) := by simp [List.getD, show k < ps.length by omega]
      rw [ep]
      rw [e1]
      refine (fvalid1_w _ _ _ _).mono fun e W' ⟨h1, h2⟩ => ⟨?_, h2⟩
      rw [h1]
      refine ret_bool ?_
      rw [Bool.eq_iff_iff, bne_iff_ne, bne_iff_ne]
      omega
    · rintro e w' ⟨h1, k, _, h2⟩
      exact ⟨h1, h2⟩
  by_cases h96 : ps.length = 96
  · have f1 : ((vs.length : Int) == 96) = true := by rw [beq_iff_eq]; omega
    have HA : Hid ((!(Ix.any (fun k => (ps.getD k []).length != 128) vs.length)) = Fr.valid ps) := by
      show _ = _
      rcases Ix.idx_cases (fun k => (ps.getD k []).length != 128) vs.length with ⟨_, h, hno⟩ | ⟨k, hk, _, h, hy, _⟩
      · rw [h]; symm
        rw [show (!false) = true from rfl, Fr.valid_iff]
        refine ⟨h96, fun i hi => ?_⟩
        have := hno i (by omega)
        simpa [List.getD, hi] using this
      · rw [h]; symm
        have hk' : k < ps.length := by omega
        refine Fr.valid_page hk' ?_
        simpa [List.getD, hk'] using hy
    have HL := Lib.hid h96
    clear h96 hl he hrd
    generalize Ix.any (fun k => (ps.getD k []).length != 128) vs.length = r at *
    go_enter Try.func23, Try.ntmps23
    go_wp2_with (go_at_call 37; refine HX.out.mono ?_; rintro e w' ⟨rfl, rfl⟩)
    go_ret
    exact ⟨ret_bool HA.out, HB.out⟩
  · have f1 : ((vs.length : Int) == 96) = false := by rw [beq_eq_false_iff_ne]; omega
    have HA := Lib.hid (Fr.valid_len h96)
    clear h96 hl he hrd HX
    go_enter Try.func23, Try.ntmps23
    go_wp2
    go_ret
    exact ⟨ret_bool HA.out.symm, HB.out⟩

theorem chk_six (f x n : Int) : (f < 0) ∨ (0 ≤ f ∧ 96 ≤ f) ∨ (0 ≤ f ∧ f < 96 ∧ x < 0) ∨ (0 ≤ f ∧ f < 96 ∧ 0 ≤ x ∧ n < 0 ∧ x ≤ 128) ∨ (0 ≤ f ∧ f < 96 ∧ 0 ≤ x ∧ n < 0 ∧ 128 < x) ∨ (0 ≤ f ∧ f < 96 ∧ 0 ≤ x ∧ 0 ≤ n ∧ 128 < x) ∨ (0 ≤ f ∧ f < 96 ∧ 0 ≤ x ∧ 0 ≤ n ∧ x ≤ 128 ∧ 128 - x < n) ∨
    (0 ≤ f ∧ f < 96 ∧ 0 ≤ x ∧ 0 ≤ n ∧ x ≤ 128 ∧ n ≤ 128 - x) := by omega

set_option maxHeartbeats 1600000 in
theorem check_w {v : Value} {ps : List (List UInt8)} {w : World} (f x n : Int) (hv : Pg w v ps) :
    Calls Try.prog 32 #[.agg #[v], .int .i64 f, .int .i64 x, .int .i64 n] w fun e w' => e = .returned (.int .i64 (Fr.chk ps f x n)) ∧ Below w.heap.size w w' := by
  have HV : Hid (∀ w', Below w.heap.size w w' → Calls Try.prog 23 #[.agg #[v]] w' fun e w'' => e = .returned (.bool (Fr.valid ps)) ∧ Below w.heap.size w w'') := fun w' hb => (valid_w (hv.below hb (Nat.le_refl _))).mono fun _ _ ⟨h1, h2⟩ => ⟨h1, hb.trans (h2.mono hb.size)⟩
  have hB : Below w.heap.size w (w.alloc (.cells #[v] 30 (0, 0))) := (Below.refl _ _).alloc (Nat.le_refl _) _
  obtain ⟨a, cap, rfl, _⟩ := hv.open
  clear hv
  cases hvv : Fr.valid ps with
  | false =>
    have HC := Lib.hid (Fr.chk_bad (f := f) (x := x) (n := n) hvv)
    rw [hvv] at HV
    clear hvv
    go_enter Try.func32, Try.ntmps32
    go_wp2_with (go_at_call 23; refine (HV.out _ hB).mono ?_; rintro e w' ⟨rfl, hb⟩)
    go_ret
    exact ⟨ret_int HC.out.symm, hb⟩
  | true =>
    have HC : Hid (Fr.chk ps f x n = if Fr.okR f x n = true then 0 else 2) := by unfold Fr.chk; rw [if_pos hvv]; rfl
    rw [hvv] at HV
    clear hvv
    have h6 := chk_six f x n
    rcases h6 with h1 | ⟨h1, h2⟩ | ⟨h1, h2, h3⟩ | ⟨h1, h2, h3, h4, h5⟩ | ⟨h1, h2, h3, h4, h5⟩ | ⟨h1, h2, h3, h4, h5⟩ | ⟨h1, h2, h3, h4, h5, h6⟩ | ⟨h1, h2, h3, h4, h5, h6⟩
    all_goals
      go_enter Try.func32, Try.ntmps32
      go_wp2_with (go_at_call 23; refine (HV.out _ hB).mono ?_; rintro e w' ⟨rfl, hb⟩)
      go_ret
      refine ⟨ret_int ?_, hb⟩
      rw [HC.out]
      first
      | (rw [if_pos (Fr.okR_iff.2 ⟨h1, h2, h3, h5, h4, h6⟩)]; done)
      | rw [if_neg (fun h => by have := Fr.okR_iff.1 h; omega)]

set_option maxHeartbeats 400000 in
theorem rframe_w (f : Int) (w : World) :
    Calls Try.prog 43 #[.int .i64 f] w fun e w' => e = .returned (.bool (decide (0 ≤ f ∧ f < 96))) ∧ w = w' := by
  by_cases h1 : 0 ≤ f
  · go_enter Try.func43, Try.ntmps43
    go_wp2
    go_ret
    exact ⟨ret_bool (by simp; omega), rfl⟩
  · go_enter Try.func43, Try.ntmps43
    go_wp2
    go_ret
    exact ⟨ret_bool (by simp; omega), rfl⟩

set_option maxHeartbeats 1600000 in
theorem rcheck_w {v : Value} {ps : List (List UInt8)} {w : World} (f x n : Int) (hv : Pg w v ps) :
    Calls Try.prog 35 #[.agg #[v], .int .i64 f, .int .i64 x, .int .i64 n] w fun e w' => e = .returned (.int .i64 (Fr.chk ps f x n)) ∧ Below w.heap.size w w' := by
  have HV : Hid (∀ w', Below w.heap.size w w' → Calls Try.prog 16 #[.agg #[v]] w' fun e w'' => e = .returned (.bool (Fr.valid ps)) ∧ Below w.heap.size w w'') := fun w' hb => (rvalid_w (hv.below hb (Nat.le_refl _))).mono fun _ _ ⟨h1, h2⟩ => ⟨h1, hb.trans (h2.mono hb.size)⟩
  have hB : Below w.heap.size w (w.alloc (.cells #[v] 24 (0, 0))) := (Below.refl _ _).alloc (Nat.le_refl _) _
  obtain ⟨a, cap, rfl, _⟩ := hv.open
  have HF := Lib.hid (fun w => rframe_w f w)
  clear hv
  cases hvv : Fr.valid ps with
  | false =>
    have HC := Lib.hid (Fr.chk_bad (f := f) (x := x) (n := n) hvv)
    rw [hvv] at HV
    clear hvv HF
    go_enter Try.func35, Try.ntmps35
    go_wp2_with (go_at_call 16; refine (HV.out _ hB).mono ?_; rintro e w' ⟨rfl, hb⟩)
    go_ret
    exact ⟨ret_int HC.out.symm, hb⟩
  | true =>
    have HC : Hid (Fr.chk ps f x n = if Fr.okR f x n = true then 0 else 2) := by unfold Fr.chk; rw [if_pos hvv]; rfl
    rw [hvv] at HV
    clear hvv
    have h6 := chk_six f x n
    rcases h6 with h1 | ⟨h1, h2⟩ | ⟨h1, h2, h3⟩ | ⟨h1, h2, h3, h4, h5⟩ | ⟨h1, h2, h3, h4, h5⟩ | ⟨h1, h2, h3, h4, h5⟩ | ⟨h1, h2, h3, h4, h5, h6⟩ | ⟨h1, h2, h3, h4, h5, h6⟩
    all_goals
      first
      | rw [decide_eq_true (by omega : 0 ≤ f ∧ f < 96)] at HF
      | rw [decide_eq_false (by omega : ¬ (0 ≤ f ∧ f < 96))] at HF
      go_enter Try.func35, Try.ntmps35
      go_wp2_with (first | (go_at_call 16; refine (HV.out _ hB).mono ?_; rintro e w' ⟨rfl, hb⟩) | (go_at_call 43; refine (HF.out _).mono ?_; rintro e w'' ⟨rfl, rfl⟩))
      go_ret
      refine ⟨ret_int ?_, hb⟩
      rw [HC.out]
      first
      | (rw [if_pos (Fr.okR_iff.2 ⟨h1, h2, h3, h5, h4, h6⟩)]; done)
      | rw [if_neg (fun h => by have := Fr.okR_iff.1 h; omega)]
end Go.Proofs.Ytkgheilaleekdaa
