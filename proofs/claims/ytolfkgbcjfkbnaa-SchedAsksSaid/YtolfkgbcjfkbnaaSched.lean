/-
  The walks of sched (Valid, Next) and of its reference (task, index, Valid, Ready, Next), and of the closure that reads bits.
-/
import Derived.Test.YtolfkgbcjfkbnaaLibw
import Derived.BigQuiet
import Derived.Deep.QuietTactic
namespace Go.Proofs.Ytolfkgbcjfkbnaa
open Go.RowKit

set_option maxHeartbeats 400000 in
theorem rtask_w (v : Int) (w : World) : Calls Try.prog 27 #[.int .i64 v] w fun e w' => e = .returned (.bool (Sq.task v)) ∧ w = w' := by
  by_cases h1 : 1 ≤ v
  · by_cases h2 : v < 32
    · go_enter Try.func27, Try.ntmps27
      go_wp2
      go_ret
      exact ⟨ret_bool (by simp [Sq.task, h1, h2]), rfl⟩
    · go_enter Try.func27, Try.ntmps27
      go_wp2
      go_ret
      exact ⟨ret_bool (by simp [Sq.task, h2]), rfl⟩
  · go_enter Try.func27, Try.ntmps27
    go_wp2
    go_ret
    exact ⟨ret_bool (by simp [Sq.task]; omega), rfl⟩

set_option maxHeartbeats 400000 in
theorem rindex_w (a : Option Addr) (cap n : Nat) (xs : List Int) (v : Int) (w : World) (hl : xs.length = n) (hm : n ≤ 9223372036854775807) (hr : Rd (Value.int .i64) w a xs) :
    Calls Try.prog 28 #[.slice a n cap, .int .i64 v] w fun e w' => e = .returned (.int .i64 (Sq.idx (fun y => v == y) xs)) ∧ w = w' := by
  subst hl
  go_enter Try.func28, Try.ntmps28
  go_wp2
  go_loop [5] (fun i => ∃ k : Nat, k ≤ xs.length ∧ i = .int .i64 k ∧ ∀ j (hj : j < xs.length), j < k → (v == xs[j]) = false) (fun i => xs.length - (intOf i).toNat)
  case atStart => exact ⟨0, Nat.zero_le _, rfl, fun j _ hj => absurd hj (Nat.not_lt_zero _)⟩
  case round =>
    obtain ⟨k, hk, rfl, hno⟩ := hrel
    have HN := Lib.hid hno
    clear hno
    by_cases hlt : k < xs.length
    · obtain ⟨b, off, rfl, hb, hc⟩ := hr.form (by omega)
      have hck := hc k hlt
      clear hc
      go_wp2
      · have he : (xs[k] == v) = true := by assumption
        go_ret
        exact ⟨ret_int (Sq.idx_some (p := fun y => v == y) hlt (by rw [BEq.comm]; exact he) HN.out).symm, rfl⟩
      · have he : (xs[k] == v) = false := by assumption
        go_round
        case rel => exact ⟨k + 1, by omega, by go_num, fun j hj hjk => by by_cases e : j = k; { subst e; rw [BEq.comm]; exact he }; exact HN.out j hj (by omega)⟩
        case measure => simp [intOf]; omega
    · go_wp2
      go_ret
      exact ⟨ret_int (Sq.idx_none (p := fun y => v == y) fun i hi => HN.out i hi (by omega)).symm, rfl⟩

set_option maxHeartbeats 400000 in
theorem valid_w (a : Option Addr) (cap n : Nat) (xs : List Int) (w : World) (hl : xs.length = n) (hm : n ≤ 9223372036854775807) (hc : n ≤ cap) (hr : Rd (Value.int .i64) w a xs) :
    Calls Try.prog 15 #[.slice a n cap] w fun e w' => e = .returned (.bool (Sq.valid xs)) ∧ w = w' := by
  subst hl
  go_enter Try.func15, Try.ntmps15
  go_wp2
  go_loop [7] (fun i => ∃ k : Nat, k ≤ xs.length ∧ i = .int .i64 k ∧ ∀ j, j < k → Sq.good xs j = true) (fun i => xs.length - (intOf i).toNat)
  case atStart => exact ⟨0, Nat.zero_le _, rfl, fun j hj => absurd hj (Nat.not_lt_zero _)⟩
  case round =>
    obtain ⟨k, hk, rfl, hno⟩ := hrel
    have HN := Lib.hid hno
    clear hno
    by_cases hlt : k < xs.length
    · have HC := contains_w a cap k (xs.take k) (xs[k]) w (by simp; omega) (by omega) (hr.take k)
      obtain ⟨b, off, rfl, hb, hcell⟩ := hr.form (by omega)
      have hck := hcell k hlt
      clear hcell
      have hg : Sq.good xs k = (Sq.task xs[k] && decide (Sq.idx (fun y => xs[k] == y) (xs.take k) < 0)) := by simp [Sq.good, List.getD, hlt]
      generalize Sq.idx (fun y => xs[k] == y) (xs.take k) = r at HC hg
      have HG := Lib.hid hg
      clear hg
      by_cases h1 : xs[k] < 1
      · go_wp2
        go_ret
        exact ⟨ret_bool (Sq.valid_false hlt (by rw [HG.out]; simp [Sq.task]; omega)).symm, rfl⟩
      · by_cases h2 : 32 ≤ xs[k]
        · go_wp2
          go_ret
          exact ⟨ret_bool (Sq.valid_false hlt (by rw [HG.out]; simp [Sq.task]; omega)).symm, rfl⟩
        · by_cases h3 : 0 ≤ r
          · go_wp2_with (go_at_call 26; refine HC.mono ?_; rintro e w' ⟨rfl, rfl⟩)
            go_ret
            exact ⟨ret_bool (Sq.valid_false hlt (by rw [HG.out]; simp; omega)).symm, rfl⟩
          · go_wp2_with (go_at_call 26; refine HC.mono ?_; rintro e w' ⟨rfl, rfl⟩)
            go_round
            case rel => exact ⟨k + 1, by omega, by go_num, fun j hjk => by by_cases e : j = k; { subst e; rw [HG.out]; simp [Sq.task]; omega }; exact HN.out j (by omega)⟩
            case measure => simp [intOf]; omega
    · go_wp2
      go_ret
      exact ⟨ret_bool (Sq.valid_true fun j hj => HN.out j (by omega)).symm, rfl⟩

set_option maxHeartbeats 400000 in
theorem rvalid_w (a : Option Addr) (cap n : Nat) (xs : List Int) (w : World) (hl : xs.length = n) (hm : n ≤ 9223372036854775807) (hr : Rd (Value.int .i64) w a xs) :
    Calls Try.prog 16 #[.slice a n cap] w fun e w' => e = .returned (.bool (Sq.valid xs)) ∧ w = w' := by
  subst hl
  go_enter Try.func16, Try.ntmps16
  go_wp2
  go_loop [3] (fun i => ∃ k : Nat, k ≤ xs.length ∧ i = .int .i64 k ∧ ∀ j, j < k → Sq.good xs j = true) (fun i => xs.length - (intOf i).toNat)
  case atStart => exact ⟨0, Nat.zero_le _, rfl, fun j hj => absurd hj (Nat.not_lt_zero _)⟩
  case round =>
    obtain ⟨k, hk, rfl, hno⟩ := hrel
    have HN := Lib.hid hno
    clear hno
    by_cases hlt : k < xs.length
    · have HT := rtask_w (xs[k]) w
      have HC := rindex_w a cap xs.length xs (xs[k]) w rfl hm hr
      obtain ⟨b, off, rfl, hb, hcell⟩ := hr.form (by omega)
      have hck := hcell k hlt
      clear hcell
      have hg : Sq.good xs k = (Sq.task xs[k] && (Sq.idx (fun y => xs[k] == y) xs == (k : Int))) := Sq.good_eq hlt
      generalize Sq.idx (fun y => xs[k] == y) xs = r at HC hg
      generalize Sq.task xs[k] = tk at HT hg
      have HG := Lib.hid hg
      clear hg
      cases tk with
      | false =>
        go_wp2_with (go_at_call 27; refine HT.mono ?_; rintro e w' ⟨rfl, rfl⟩)
        go_ret
        exact ⟨ret_bool (Sq.valid_false hlt (by rw [HG.out]; rfl)).symm, rfl⟩
      | true =>
        by_cases h3 : r = (k : Int)
        · have h4 : (r != (k : Int)) = false := by simp [h3]
          go_wp2_with (first | (go_at_call 27; refine HT.mono ?_; rintro e w' ⟨rfl, rfl⟩) | (go_at_call 28; refine HC.mono ?_; rintro e w' ⟨rfl, rfl⟩))
          go_round
          case rel => exact ⟨k + 1, by omega, by go_num, fun j hjk => by by_cases e : j = k; { subst e; rw [HG.out]; simp [h3] }; exact HN.out j (by omega)⟩
          case measure => simp [intOf]; omega
        · have h4 : (r != (k : Int)) = true := by simp [h3]
          go_wp2_with (first | (go_at_call 27; refine HT.mono ?_; rintro e w' ⟨rfl, rfl⟩) | (go_at_call 28; refine HC.mono ?_; rintro e w' ⟨rfl, rfl⟩))
          go_ret
          exact ⟨ret_bool (Sq.valid_false hlt (by rw [HG.out]; simp [h3])).symm, rfl⟩
    · go_wp2
      go_ret
      exact ⟨ret_bool (Sq.valid_true fun j hj => HN.out j (by omega)).symm, rfl⟩

set_option maxHeartbeats 400000 in
theorem ready_w (bits n : Int) (w : World) (hb0 : 0 ≤ bits) (hb1 : bits < 4294967296) : Calls Try.prog 17 #[.int .u32 bits, .int .i64 n] w fun e w' => e = .returned (.bool (Sq.ready bits n)) ∧ w = w' := by
  by_cases h1 : 0 ≤ n
  · by_cases h2 : n < 32
    · go_enter Try.func17, Try.ntmps17
      go_wp2
      go_ret
      have e0 : 0 ≤ bits / 2 ^ n.toNat := Int.ediv_nonneg hb0 (Int.pow_nonneg (by decide))
      have e1 : bits / 2 ^ n.toNat ≤ bits := Int.ediv_le_self _ hb0
      refine ⟨ret_bool ?_, rfl⟩
      rw [and_one_u32 _ e0 (by omega)]
      simp [Sq.ready, h1, h2]
    · go_enter Try.func17, Try.ntmps17
      go_wp2
      go_ret
      exact ⟨ret_bool (by simp [Sq.ready]; omega), rfl⟩
  · go_enter Try.func17, Try.ntmps17
    go_wp2
    go_ret
    exact ⟨ret_bool (by simp [Sq.ready]; omega), rfl⟩

set_option maxHeartbeats 400000 in
/-- The closure that by returns: it reads the bits out of their cell. -/
theorem by1_w (bits x : Int) (B : Nat) (w : World) (hb0 : 0 ≤ bits) (hb1 : bits < 4294967296) (hc : w.cell? ⟨B, 0, none⟩ = some (.int .u32 bits)) :
    Calls Try.prog 25 #[.int .i64 x, .pointer (some ⟨B, 0, none⟩)] w fun e w' => e = .returned (.bool (Sq.ready bits x)) ∧ w = w' := by
  have HR := ready_w bits x w hb0 hb1
  generalize Sq.ready bits x = r at HR ⊢
  go_enter Try.func25, Try.ntmps25
  go_wp2_with (go_at_call 17; refine HR.mono ?_; rintro e w' ⟨rfl, rfl⟩)
  go_ret
  exact ⟨rfl, rfl⟩

set_option maxHeartbeats 400000 in
theorem by_w (bits : Int) (w : World) : Calls Try.prog 12 #[.int .u32 bits] w fun e w' => e = .returned (.func (.func 25) #[] #[.pointer (some ⟨w.heap.size, 0, none⟩)]) ∧
    w'.cell? ⟨w.heap.size, 0, none⟩ = some (.int .u32 bits) ∧ w.heap.size < w'.heap.size ∧ Below w.heap.size w w' := by
  go_enter Try.func12, Try.ntmps12
  go_wp2
  go_ret
  exact ⟨rfl, by simp, by simp, (Below.refl _ w).alloc (Nat.le_refl _) _⟩

theorem enter_by1 : ∀ args w, (callFunc 25 args).run Try.prog w = .ok (.enter 25 args) w := enters_of Try.func25 (by kernel_rfl) rfl

/-- slices.IndexFunc over the closure of by. -/
theorem indexBy_w (a : Option Addr) (cap n : Nat) (xs : List Int) (bits : Int) (B : Nat) (w : World) (hl : xs.length = n) (hm : n ≤ 9223372036854775807) (hr : Rd (Value.int .i64) w a xs)
    (hb0 : 0 ≤ bits) (hb1 : bits < 4294967296) (hc : w.cell? ⟨B, 0, none⟩ = some (.int .u32 bits)) :
    Calls Try.prog 23 #[.slice a n cap, .func (.func 25) #[] #[.pointer (some ⟨B, 0, none⟩)]] w fun e w' => e = .returned (.int .i64 (Sq.idx (Sq.ready bits) xs)) ∧ w = w' := by
  subst hl
  refine (indexFunc_w a cap xs 25 #[.pointer (some ⟨B, 0, none⟩)] (Sq.ready bits) (fun _ W => w = W) w hm enter_by1 (fun _ W h => h ▸ hr) rfl ?_).mono ?_
  · rintro k W hk rfl
    exact by1_w bits _ B w hb0 hb1 hc
  · rintro e w' ⟨rfl, h⟩
    refine ⟨rfl, ?_⟩
    rcases h with h | ⟨_, _, _, h⟩
    · exact h.2
    · exact h
end Go.Proofs.Ytolfkgbcjfkbnaa
