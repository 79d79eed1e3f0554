/-
  The walks of extent.Clear and of the reference's.
-/
import Derived.Test.YtnmplcnnpkbomaaAlloc
namespace Ex
theorem cl_len_step (xs : List UInt8) {x i : Nat} (h : x ≤ i) : (cl xs x (i + 1)).length = (cl xs x i).length + if getB xs (i : Nat) then 0 else 1 := by
  rw [cl_step xs h]
  cases getB xs (i : Nat) <;> simp
end Ex
namespace Go.Proofs.Ytnmplcnnpkbomaa
open Go.RowKit

theorem retcc {a b c : Int} (h : a = b) : Ending.returned (.tuple #[.int .i64 a, .int .i64 c]) = .returned (.tuple #[.int .i64 b, .int .i64 c]) := by rw [h]

set_option maxHeartbeats 800000 in
theorem clear_w {v : Value} {xs : List UInt8} {w : World} (x y : Int) (hv : Sl eb w v xs) (hm : xs.length ≤ 1000) :
    Calls Try.prog 21 #[v, .int .i64 x, .int .i64 y] w fun e w' => e = .returned (.tuple #[.int .i64 (Ex.clearR xs x y).1, .int .i64 (Ex.clearR xs x y).2]) ∧ w = w' := by
  obtain ⟨a, cap, rfl, hc, hcm, hna, hrd⟩ := hv
  have HW := valid_w a cap xs.length x y w (by omega)
  unfold Ex.clearR
  cases hok : Ex.okR xs.length x y with
  | false =>
    rw [hok] at HW
    clear hok
    go_enter Try.func21, Try.ntmps21
    go_wp2_with (go_at_call 32; refine HW.mono ?_; rintro e w' ⟨rfl, rfl⟩)
    go_ret2
    exact ⟨rfl, rfl⟩
  | true =>
    rw [hok] at HW
    obtain ⟨x, y, rfl, rfl, hxy, hy8⟩ := Ex.okR_nat hok
    have HG := Lib.hid (fun i (hi : (i : Int) ≤ 9223372036854775807) => get_w a cap xs.length xs i w rfl (by omega) hrd hi)
    clear hok hrd
    go_enter Try.func21, Try.ntmps21
    go_wp2_with (go_at_call 32; refine HW.mono ?_; rintro e w' ⟨rfl, rfl⟩)
    go_loop [8, 9] (fun s8 s9 => ∃ i c : Nat, s9 = .int .i64 i ∧ s8 = .int .i64 c ∧ x ≤ i ∧ i ≤ y ∧ c ≤ i ∧ Hid (c = (Ex.cl xs x i).length)) (fun _ s9 => y - (intOf s9).toNat)
    case atStart => exact ⟨x, 0, rfl, rfl, Nat.le_refl _, hxy, Nat.zero_le _, by rw [Ex.cl_start]; rfl⟩
    case round =>
      obtain ⟨i, c, rfl, rfl, hxi, hiy, hci, HN⟩ := hrel
      by_cases hlt : i < y
      · have HC := HG.out i (by omega)
        have HS := Lib.hid (Ex.cl_len_step xs hxi)
        cases hb : Ex.getB xs i with
        | true =>
          rw [hb] at HC HS
          have H2 : Hid (c = (Ex.cl xs x (i + 1)).length) := by have h := HS.out; simp at h; rw [h]; exact HN.out
          clear hb
          go_wp2_with (go_at_call 18; refine HC.mono ?_; rintro e w' ⟨rfl, rfl⟩)
          go_round
          case rel => exact ⟨i + 1, c, by go_num, rfl, by omega, by omega, by omega, H2⟩
          case measure => simp [intOf]; omega
        | false =>
          rw [hb] at HC HS
          have H2 : Hid (c + 1 = (Ex.cl xs x (i + 1)).length) := by have h := HS.out; simp at h; rw [h, HN.out]; rfl
          clear hb
          go_wp2_with (go_at_call 18; refine HC.mono ?_; rintro e w' ⟨rfl, rfl⟩)
          go_round
          case rel => exact ⟨i + 1, c + 1, by go_num, by go_num, by omega, by omega, by omega, H2⟩
          case measure => simp [intOf]; omega
      · obtain rfl : i = y := by omega
        go_wp2
        go_ret2
        exact ⟨retcc (by rw [HN.out]), rfl⟩
set_option maxHeartbeats 800000 in
theorem rclr_w {v : Value} {xs : List UInt8} {w : World} (x y : Int) (hv : Sl eb w v xs) (hm : xs.length ≤ 1000) :
    Calls Try.prog 22 #[v, .int .i64 x, .int .i64 y] w fun e w' => e = .returned (.tuple #[.int .i64 (Ex.clearR xs x y).1, .int .i64 (Ex.clearR xs x y).2]) ∧ w = w' := by
  obtain ⟨a, cap, rfl, hc, hcm, hna, hrd⟩ := hv
  have HW := rvalid_w a cap xs.length x y w (by omega)
  unfold Ex.clearR
  cases hok : Ex.okR xs.length x y with
  | false =>
    rw [hok] at HW
    clear hok
    go_enter Try.func22, Try.ntmps22
    go_wp2_with (go_at_call 35; refine HW.mono ?_; rintro e w' ⟨rfl, rfl⟩)
    go_ret2
    exact ⟨rfl, rfl⟩
  | true =>
    rw [hok] at HW
    obtain ⟨x, y, rfl, rfl, hxy, hy8⟩ := Ex.okR_nat hok
    have HG := Lib.hid (fun i (hi : (i : Int) ≤ 9223372036854775807) => rget_w a cap xs.length xs i w rfl (by omega) hrd hi)
    clear hok hrd
    go_enter Try.func22, Try.ntmps22
    go_wp2_with (go_at_call 35; refine HW.mono ?_; rintro e w' ⟨rfl, rfl⟩)
    go_loop [8, 9] (fun s8 s9 => ∃ i c : Nat, s9 = .int .i64 i ∧ s8 = .int .i64 c ∧ x ≤ i ∧ i ≤ y ∧ c ≤ i ∧ Hid (c = (Ex.cl xs x i).length)) (fun _ s9 => y - (intOf s9).toNat)
    case atStart => exact ⟨x, 0, rfl, rfl, Nat.le_refl _, hxy, Nat.zero_le _, by rw [Ex.cl_start]; rfl⟩
    case round =>
      obtain ⟨i, c, rfl, rfl, hxi, hiy, hci, HN⟩ := hrel
      by_cases hlt : i < y
      · have HC := HG.out i (by omega)
        have HS := Lib.hid (Ex.cl_len_step xs hxi)
        cases hb : Ex.getB xs i with
        | true =>
          rw [hb] at HC HS
          have H2 : Hid (c = (Ex.cl xs x (i + 1)).length) := by have h := HS.out; simp at h; rw [h]; exact HN.out
          clear hb
          go_wp2_with (go_at_call 25; refine HC.mono ?_; rintro e w' ⟨rfl, rfl⟩)
          go_round
          case rel => exact ⟨i + 1, c, by go_num, rfl, by omega, by omega, by omega, H2⟩
          case measure => simp [intOf]; omega
        | false =>
          rw [hb] at HC HS
          have H2 : Hid (c + 1 = (Ex.cl xs x (i + 1)).length) := by have h := HS.out; simp at h; rw [h, HN.out]; rfl
          clear hb
          go_wp2_with (go_at_call 25; refine HC.mono ?_; rintro e w' ⟨rfl, rfl⟩)
          go_round
          case rel => exact ⟨i + 1, c + 1, by go_num, by go_num, by omega, by omega, by omega, H2⟩
          case measure => simp [intOf]; omega
      · obtain rfl : i = y := by omega
        go_wp2
        go_ret2
        exact ⟨retcc (by rw [HN.out]), rfl⟩
end Go.Proofs.Ytnmplcnnpkbomaa
