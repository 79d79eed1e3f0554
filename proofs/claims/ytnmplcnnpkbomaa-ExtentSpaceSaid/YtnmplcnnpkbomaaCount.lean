/-
  The walk of the reference's Count, and both Sets.
-/
import Derived.Test.YtnmplcnnpkbomaaClear
import Derived.Test.YtnmplcnnpkbomaaRput
namespace Go.Proofs.Ytnmplcnnpkbomaa
open Go.RowKit

set_option maxHeartbeats 800000 in
theorem rcount_w {v : Value} {xs : List UInt8} {w : World} (hv : Sl eb w v xs) (hm : xs.length ≤ 1000) :
    Calls Try.prog 27 #[v] w fun e w' => e = .returned (.int .i64 (Ex.countTo xs (8 * xs.length))) ∧ w = w' := by
  obtain ⟨a, cap, rfl, hc, hcm, hna, hrd⟩ := hv
  have HG := Lib.hid (fun i (hi : (i : Int) ≤ 9223372036854775807) => rget_w a cap xs.length xs i w rfl (by omega) hrd hi)
  clear hrd
  go_enter Try.func27, Try.ntmps27
  go_wp2_with fail
  go_loop [3, 4] (fun s3 s4 => ∃ i c : Nat, s4 = .int .i64 i ∧ s3 = .int .i64 c ∧ i ≤ 8 * xs.length ∧ c ≤ i ∧ Hid (c = Ex.countTo xs i)) (fun _ s4 => 8 * xs.length - (intOf s4).toNat)
  case atStart => exact ⟨0, 0, rfl, rfl, Nat.zero_le _, Nat.zero_le _, rfl⟩
  case round =>
    obtain ⟨i, c, rfl, rfl, hiy, hci, HN⟩ := hrel
    by_cases hlt : i < 8 * xs.length
    · have HC := HG.out i (by omega)
      have HS := Lib.hid (Ex.countTo_step xs i)
      cases hb : Ex.getB xs i with
      | true =>
        rw [hb] at HC HS
        have H2 : Hid (c + 1 = Ex.countTo xs (i + 1)) := by have h := HS.out; simp at h; rw [h, HN.out]; rfl
        clear hb
        go_wp2_with (go_at_call 25; refine HC.mono ?_; rintro e w' ⟨rfl, rfl⟩)
        go_round
        case rel => exact ⟨i + 1, c + 1, by go_num, by go_num, by omega, by omega, H2⟩
        case measure => simp [intOf]; omega
      | false =>
        rw [hb] at HC HS
        have H2 : Hid (c = Ex.countTo xs (i + 1)) := by have h := HS.out; simp at h; rw [h]; exact HN.out
        clear hb
        go_wp2_with (go_at_call 25; refine HC.mono ?_; rintro e w' ⟨rfl, rfl⟩)
        go_round
        case rel => exact ⟨i + 1, c, by go_num, rfl, by omega, by omega, H2⟩
        case measure => simp [intOf]; omega
    · obtain rfl : i = 8 * xs.length := by omega
      go_wp2
      go_ret
      exact ⟨ret_int (by rw [HN.out]), rfl⟩
end Go.Proofs.Ytnmplcnnpkbomaa
