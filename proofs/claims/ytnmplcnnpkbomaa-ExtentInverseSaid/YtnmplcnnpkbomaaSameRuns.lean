/-
  The walk of SameRuns on two slices that read alike.
-/
import Derived.Test.YtnmplcnnpkbomaaFrom
namespace Go.Proofs.Ytnmplcnnpkbomaa
open Go.RowKit

set_option maxRecDepth 20000 in
set_option maxHeartbeats 1600000 in
theorem sameRuns_t {va vb : Value} {xs : List (Int × Int)} {w : World} (ha : Sm 2 er w va xs) (hb : Sm 2 er w vb xs) :
    Calls Try.prog 30 #[va, vb] w fun e w' => e = .returned (.bool true) ∧ Below w.heap.size w w' := by
  obtain ⟨a1, c1, rfl, hc1, hcm1, hna1, hra⟩ := ha
  obtain ⟨a2, c2, rfl, hc2, hcm2, hna2, hrb⟩ := hb
  unfold maxLen at hcm1 hcm2
  go_enter Try.func30, Try.ntmps30
  go_wp2
  go_loopw [5] (fun i wr => ∃ k : Nat, k ≤ xs.length ∧ i = .int .i64 k ∧ ∃ q, wr = w.drewN q) (fun i _ => xs.length - (intOf i).toNat)
  case atStart => exact ⟨0, Nat.zero_le _, rfl, 0, rfl⟩
  case round =>
    obtain ⟨k, hk, rfl, q, rfl⟩ := hrel
    by_cases hlt : k < xs.length
    · obtain ⟨b1, off1, rfl, hbl1, hc1⟩ := hra.form (by omega)
      obtain ⟨b2, off2, rfl, hbl2, hc2⟩ := hrb.form (by omega)
      have h10 : w.cell? ⟨b1, off1 + k * 2, none⟩ = some (.int .i64 xs[k].1) := hc1 k hlt 0 (by omega)
      have h11 : w.cell? ⟨b1, off1 + k * 2 + 1, none⟩ = some (.int .i64 xs[k].2) := hc1 k hlt 1 (by omega)
      have h20 : w.cell? ⟨b2, off2 + k * 2, none⟩ = some (.int .i64 xs[k].1) := hc2 k hlt 0 (by omega)
      have h21 : w.cell? ⟨b2, off2 + k * 2 + 1, none⟩ = some (.int .i64 xs[k].2) := hc2 k hlt 1 (by omega)
      have f1 : (0 : Int) ≤ (k : Int) := by omega
      have f2 : (k : Int) < (xs.length : Int) := by omega
      generalize xs[k].1 = x at *
      generalize xs[k].2 = y at *
      clear hc1 hc2
      go_wp2_with fail
      go_quiet (fail)
      go_wp2
      go_roundw
      case rel => exact ⟨k + 1, by omega, by go_num, by first | exact ⟨_, rfl⟩ | exact ⟨_, World.drewN_drewN _ _ _⟩⟩
      case measure => simp [intOf]; omega
    · go_wp2
      go_ret
      exact ⟨rfl, below_drewN (Below.refl _ _) q⟩
end Go.Proofs.Ytnmplcnnpkbomaa
