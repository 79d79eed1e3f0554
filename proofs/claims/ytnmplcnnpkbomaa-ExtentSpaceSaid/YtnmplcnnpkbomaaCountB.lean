/-
  The walk of extent.Count.
-/
import Derived.Test.YtnmplcnnpkbomaaCount
import Derived.Test.YtnmplcnnpkbomaaOnes
namespace Ex
theorem ones8 : ∀ n : Fin 256, Go.Lib.onesCount n.val = (if n.val.testBit 0 then 1 else 0) + (if n.val.testBit 1 then 1 else 0) + (if n.val.testBit 2 then 1 else 0) + (if n.val.testBit 3 then 1 else 0) + (if n.val.testBit 4 then 1 else 0) + (if n.val.testBit 5 then 1 else 0) + (if n.val.testBit 6 then 1 else 0) + (if n.val.testBit 7 then 1 else 0) := by decide +kernel

theorem countTo_byte (xs : List UInt8) {k : Nat} (hk : k < xs.length) : countTo xs (8 * (k + 1)) = countTo xs (8 * k) + Go.Lib.onesCount xs[k].toNat := by
  have hg : ∀ j, j < 8 → getB xs ((8 * k + j : Nat) : Int) = xs[k].toNat.testBit j := by
    intro j hj
    rw [getB_nat, decide_eq_true (by omega), show (8 * k + j) / 8 = k by omega, show (8 * k + j) % 8 = j by omega]
    simp [List.getD, hk, bitB]
  have ho := ones8 ⟨xs[k].toNat, xs[k].toNat_lt⟩
  simp only at ho
  rw [ho, show 8 * (k + 1) = 8 * k + 0 + 1 + 1 + 1 + 1 + 1 + 1 + 1 + 1 by omega]
  simp only [countTo_step]
  have h0 := hg 0 (by omega); have h1 := hg 1 (by omega); have h2 := hg 2 (by omega); have h3 := hg 3 (by omega)
  have h4 := hg 4 (by omega); have h5 := hg 5 (by omega); have h6 := hg 6 (by omega); have h7 := hg 7 (by omega)
  simp only [Nat.add_assoc, Nat.add_zero] at *
  rw [h0, h1, h2, h3, h4, h5, h6, h7]
end Ex
namespace Go.Proofs.Ytnmplcnnpkbomaa
open Go.RowKit

set_option maxHeartbeats 300000 in
theorem count_w {v : Value} {xs : List UInt8} {w : World} (hv : Sl eb w v xs) (hm : xs.length ≤ 1000) :
    Calls Try.prog 26 #[v] w fun e w' => e = .returned (.int .i64 (Ex.countTo xs (8 * xs.length))) ∧ w = w' := by
  obtain ⟨a, cap, rfl, hc, hcm, hna, hrd⟩ := hv
  have H8 := Lib.hid (fun (x : UInt8) => ones_w x w)
  go_enter Try.func26, Try.ntmps26
  go_wp2_with fail
  go_loop [3, 5, 8] (fun s3 _ s8 => ∃ k c : Nat, s8 = .int .i64 k ∧ s3 = .int .i64 c ∧ k ≤ xs.length ∧ c ≤ 8 * k ∧ Hid (c = Ex.countTo xs (8 * k))) (fun _ _ s8 => xs.length - (intOf s8).toNat)
  case atStart => exact ⟨0, 0, rfl, rfl, Nat.zero_le _, Nat.zero_le _, rfl⟩
  case round =>
    obtain ⟨k, c, rfl, rfl, hk, hci, HN⟩ := hrel
    by_cases hlt : k < xs.length
    · obtain ⟨b, off, rfl, hb, hcs⟩ := hrd.form (by omega)
      have hck := hcs k hlt
      have f1 : (0 : Int) ≤ (k : Int) := by omega
      have f2 : (k : Int) < (xs.length : Int) := by omega
      have hex : ∃ (x : UInt8) (p : Nat), w.cell? ⟨b, off + k, none⟩ = some (eb x) ∧ p ≤ 8 ∧ Hid (c + p = Ex.countTo xs (8 * (k + 1))) ∧ (Calls Try.prog 38 #[eb x] w fun e w' => e = .returned (.int .i64 (p : Int)) ∧ w = w') :=
        ⟨xs[k]'hlt, Lib.onesCount (xs[k]'hlt).toNat, hck, Lib.onesCount_le8 ⟨(xs[k]'hlt).toNat, (xs[k]'hlt).toNat_lt⟩, by rw [Ex.countTo_byte xs hlt, HN.out]; rfl, H8.out _⟩
      clear hck
      obtain ⟨x, p, hck, hle, H2, HC⟩ := hex
      clear hcs H8 hrd
      unfold eb at hck HC
      go_wp2_with (go_at_call 38; go_loud (with_reducible refine HC.mono ?_); rintro e w' ⟨rfl, rfl⟩)
      go_round
      case rel => exact ⟨k + 1, c + p, by go_num, by go_num, by omega, by omega, H2⟩
      case measure => simp [intOf]; omega
    · obtain rfl : k = xs.length := by omega
      go_wp2
      go_ret
      exact ⟨ret_int (by rw [HN.out]), rfl⟩
end Go.Proofs.Ytnmplcnnpkbomaa
