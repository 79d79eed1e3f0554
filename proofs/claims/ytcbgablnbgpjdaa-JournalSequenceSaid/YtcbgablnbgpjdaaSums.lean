/-
  The walks of the checksum's parts: From and eight of sum; step, From and Eight of the reference.
-/
import Derived.Test.YtcbgablnbgpjdaaRows
import Derived.Test.YtcbgablnbgpjdaaMem2
import Derived.Test.YtcbgablnbgpjdaaSumSpec
import Derived.Test.YtcbgablnbgpjdaaStep
namespace Go.Proofs.Ytcbgablnbgpjdaa
open Go.RowKit

/-- A word as a value. -/
def eu (h : UInt64) : Value := .int .u64 (h.toNat : Int)

theorem wrap_u64_in (n : Int) (h0 : 0 ≤ n) (h1 : n < 18446744073709551616) : IntKind.u64.wrap n = n := by
  simp only [IntKind.wrap, IntKind.bits, IntKind.signed, Bool.false_and]
  simp
  omega

theorem wrap_u64 (n : Int) : IntKind.u64.wrap n = n % 18446744073709551616 := by
  simp only [IntKind.wrap, IntKind.bits, IntKind.signed, Bool.false_and]
  simp

theorem xor_u64 (a b : UInt64) : bits BinOp.xor IntKind.u64 (a.toNat : Int) (b.toNat : Int) = ((a ^^^ b).toNat : Int) := by
  have ha := a.toNat_lt
  have hb := b.toNat_lt
  have h1 : (BitVec.ofInt 64 (a.toNat : Int)).toNat = a.toNat := by
    rw [BitVec.ofInt_natCast, BitVec.toNat_ofNat]; exact Nat.mod_eq_of_lt ha
  have h2 : (BitVec.ofInt 64 (b.toNat : Int)).toNat = b.toNat := by
    rw [BitVec.ofInt_natCast, BitVec.toNat_ofNat]; exact Nat.mod_eq_of_lt hb
  show IntKind.u64.wrap ((BitVec.ofInt 64 (a.toNat : Int) ^^^ BitVec.ofInt 64 (b.toNat : Int)).toNat : Int) = _
  rw [BitVec.toNat_xor, h1, h2, UInt64.toNat_xor]
  have := Nat.xor_lt_two_pow ha hb
  exact wrap_u64_in _ (by omega) (by omega)

theorem byte_u64 (c : UInt8) : IntKind.u64.wrap (c.toNat : Int) = (c.toUInt64.toNat : Int) := by
  have := c.toNat_lt
  rw [wrap_u64_in _ (by omega) (by omega)]
  simp

theorem mul_u64 (x : UInt64) : IntKind.u64.wrap ((x.toNat : Int) * 15111065706836454659) = ((x * Sum.fac).toNat : Int) := by
  rw [wrap_u64, UInt64.toNat_mul]
  have : Sum.fac.toNat = 15111065706836454659 := by decide
  rw [this]
  omega

theorem shr_u64 (x : UInt64) : (x.toNat : Int) / (536870912 : Int) = ((x >>> 29).toNat : Int) := by
  rw [UInt64.toNat_shiftRight]
  have : (29 : UInt64).toNat % 64 = 29 := by decide
  rw [this, Nat.shiftRight_eq_div_pow]
  omega

theorem step_val (h : UInt64) (c : UInt8) : bits BinOp.xor IntKind.u64 (IntKind.u64.wrap (bits BinOp.xor IntKind.u64 (h.toNat : Int) (IntKind.u64.wrap (c.toNat : Int)) * 15111065706836454659)) (IntKind.u64.wrap (bits BinOp.xor IntKind.u64 (h.toNat : Int) (IntKind.u64.wrap (c.toNat : Int)) * 15111065706836454659) / 536870912) = ((Sum.step h c).toNat : Int) := by
  rw [byte_u64, xor_u64, mul_u64, shr_u64, xor_u64]
  rfl

set_option maxHeartbeats 400000 in
theorem rstep_w (h : UInt64) (c : UInt8) (w : World) : Calls Try.prog 57 #[.int .u64 (h.toNat : Int), .int .u8 (c.toNat : Int)] w fun e w' => e = .returned (.int .u64 ((Sum.step h c).toNat : Int)) ∧ w = w' := by
  have HS := Lib.hid (step_val h c)
  go_enter Try.func57, Try.ntmps57
  go_wp2
  go_ret
  exact ⟨ret_int HS.out, rfl⟩

theorem sum_take_step (h : UInt64) (xs : List UInt8) (k : Nat) (hk : k < xs.length) : Sum.sum h (xs.take (k + 1)) = Sum.step (Sum.sum h (xs.take k)) xs[k] := by
  rw [List.take_succ_eq_append_getElem hk, Sum.sum_append]
  rfl

set_option maxHeartbeats 800000 in
theorem sfrom_w (h : UInt64) {v : Value} {xs : List UInt8} {w : World} (hv : Sl eb w v xs) : Calls Try.prog 50 #[.int .u64 (h.toNat : Int), v] w fun e w' => e = .returned (.int .u64 ((Sum.sum h xs).toNat : Int)) ∧ w = w' := by
  obtain ⟨a, cap, rfl, hc, hcm, hna, hrd⟩ := hv
  unfold maxLen at hcm
  have HRD := Lib.hid hrd
  clear hrd
  go_enter Try.func50, Try.ntmps50
  go_wp2
  go_loop [0, 6, 7, 10] (fun s0 _ _ i => ∃ k : Nat, i = .int .i64 k ∧ k ≤ xs.length ∧ s0 = .int .u64 ((Sum.sum h (xs.take k)).toNat : Int)) (fun _ _ _ i => xs.length - (intOf i).toNat)
  case atStart => exact ⟨0, rfl, Nat.zero_le _, rfl⟩
  case round =>
    obtain ⟨k, rfl, hk, rfl⟩ := hrel
    by_cases hlt : k < xs.length
    · obtain ⟨b, off, rfl, hb, hcell⟩ := HRD.out.form (by omega)
      have hck : w.cell? ⟨b, off + k, none⟩ = some (.int .u8 (xs[k].toNat : Int)) := hcell k hlt
      have HST := Lib.hid (sum_take_step h xs k hlt)
      clear hcell
      have f1 : (0 : Int) ≤ (k : Int) := by omega
      have f2 : (k : Int) < (xs.length : Int) := by omega
      generalize xs[k] = c at *
      generalize Sum.sum h (xs.take k) = q at *
      have HSV := Lib.hid (step_val q c)
      go_wp2
      go_round
      case rel => exact ⟨k + 1, by go_num, by omega, by rw [HST.out, HSV.out]⟩
      case measure => simp [intOf]; omega
    · obtain rfl : k = xs.length := by omega
      go_wp2
      go_ret
      exact ⟨ret_int (by simp), rfl⟩

set_option maxHeartbeats 800000 in
theorem rfrom_w (h : UInt64) {v : Value} {xs : List UInt8} {w : World} (hv : Sl eb w v xs) : Calls Try.prog 52 #[.int .u64 (h.toNat : Int), v] w fun e w' => e = .returned (.int .u64 ((Sum.sum h xs).toNat : Int)) ∧ w = w' := by
  obtain ⟨a, cap, rfl, hc, hcm, hna, hrd⟩ := hv
  unfold maxLen at hcm
  have HRD := Lib.hid hrd
  clear hrd
  go_enter Try.func52, Try.ntmps52
  go_wp2
  go_loop [0, 5] (fun s0 i => ∃ k : Nat, i = .int .i64 k ∧ k ≤ xs.length ∧ s0 = .int .u64 ((Sum.sum h (xs.take k)).toNat : Int)) (fun _ i => xs.length - (intOf i).toNat)
  case atStart => exact ⟨0, rfl, Nat.zero_le _, rfl⟩
  case round =>
    obtain ⟨k, rfl, hk, rfl⟩ := hrel
    by_cases hlt : k < xs.length
    · obtain ⟨b, off, rfl, hb, hcell⟩ := HRD.out.form (by omega)
      have hck : w.cell? ⟨b, off + k, none⟩ = some (.int .u8 (xs[k].toNat : Int)) := hcell k hlt
      have HST := Lib.hid (sum_take_step h xs k hlt)
      clear hcell
      have f1 : (0 : Int) ≤ (k : Int) := by omega
      have f2 : (k : Int) < (xs.length : Int) := by omega
      generalize xs[k] = c at *
      generalize Sum.sum h (xs.take k) = q at *
      have HSV := Lib.hid (fun W => rstep_w q c W)
      go_wp2_with (go_at_call 57; refine (HSV.out _).mono ?_; rintro e w1 ⟨rfl, rfl⟩)
      go_round
      case rel => exact ⟨k + 1, by go_num, by omega, by rw [HST.out]⟩
      case measure => simp [intOf]; omega
    · obtain rfl : k = xs.length := by omega
      go_wp2
      go_ret
      exact ⟨ret_int (by simp), rfl⟩

theorem byte_val (n : Int) (k : Nat) : IntKind.u64.wrap n / 2 ^ (8 * k) % 256 = ((Sum.byte (Sum.word n) k).toNat : Int) := by
  rw [wrap_u64]
  obtain ⟨m, hm⟩ : ∃ m : Nat, n % 18446744073709551616 = (m : Int) := ⟨(n % 18446744073709551616).toNat, by omega⟩
  have hlt : m < 18446744073709551616 := by omega
  have hw : (Sum.word n).toNat = m := by
    unfold Sum.word
    rw [hm, UInt64.toNat_ofNat', Int.toNat_natCast]
    exact Nat.mod_eq_of_lt hlt
  unfold Sum.byte
  rw [hw, hm]
  have hp : (2 : Int) ^ (8 * k) = ((256 ^ k : Nat) : Int) := by
    rw [Int.pow_mul, Int.natCast_pow]
    rfl
  rw [hp, UInt8.toNat_ofNat']
  generalize 256 ^ k = q
  rfl

theorem eight_succ (n : UInt64) (k : Nat) : (List.range (k + 1)).map (Sum.byte n) = (List.range k).map (Sum.byte n) ++ [Sum.byte n k] := by
  rw [List.range_succ, List.map_append]; rfl

theorem Try.info5' : (Try.prog.info? 5).map (fun i => (i.zero, i.size, i.bytes)) = some (some (.int .u8 0), 1, 1) := by kernel_rfl

set_option maxHeartbeats 800000 in
/-- eight appends to a row that the caller owns. -/
theorem eight_w (base : Nat) (n : Int) {v : Value} {xs : List UInt8} {w : World} (hv : w.ownsRow base 5 1 v xs.length (xs.map eb)) (hB : base ≤ w.heap.size) (hm : xs.length ≤ 1000) :
    Calls Try.prog 51 #[v, .int .i64 n] w fun e w' => ∃ v', e = .returned v' ∧ w'.ownsRow base 5 1 v' (xs.length + 8) ((xs ++ Sum.eight n).map eb) ∧ Below base w w' := by
  obtain ⟨a, c, rfl⟩ := own_slice hv
  obtain ⟨i0, hi, hz0, hz1, hz2⟩ := info_parts Try.info5'
  have HV := Lib.hid hv
  clear hv
  go_enter Try.func51, Try.ntmps51
  go_wp2
  go_loopw [0, 5, 6] (fun s0 _ i wr => ∃ k : Nat, i = .int .i64 k ∧ k ≤ 8 ∧ wr.ownsRow base 5 1 s0 (xs.length + k) ((xs ++ (List.range k).map (Sum.byte (Sum.word n))).map eb) ∧ Below base w wr) (fun _ _ i _ => 8 - (intOf i).toNat)
  case atStart => exact ⟨0, rfl, by omega, by simpa using HV.out, Below.refl _ _⟩
  case round =>
    obtain ⟨k, rfl, hk, ho, hbl⟩ := hrel
    obtain ⟨a1, c1, rfl⟩ := own_slice ho
    by_cases hlt : k < 8
    · have f1 : (k : Int) < 8 := by omega
      have hbv := byte_val n k
      have HES := Lib.hid (eight_succ (Sum.word n) k)
      have hbs := hbl.size
      have hl8 : ((List.range k).map (Sum.byte (Sum.word n))).length = k := by simp
      have HL8 : Hid ((xs ++ (List.range k).map (Sum.byte (Sum.word n))).length = xs.length + k) := by show _ = _; simp
      clear hl8
      generalize Sum.byte (Sum.word n) k = c at *
      generalize hX : xs ++ (List.range k).map (Sum.byte (Sum.word n)) = X at *
      have HX := Lib.hid hX
      clear hX
      go_wp2_with (at_builtin; refine wpList_append_rd eb (fun _ => rfl) rfl (.tmp 9) (.tmp 16) 29 rfl base 5 i0 (.int .u8 0) 1 Try.underlying29 hi hz0 hz1 hz2 rfl (.slice a1 (xs.length + k) c1) (xs.length + k) X rfl (ho.alloc _) (some ⟨wr.heap.size, 0, none⟩) 1 [c] 1 rfl rfl (by simp) (by omega) (Rd.one eb wr c _ _) (by unfold maxLen; omega) (by omega) (by simp; omega) ?_; intro v7 w7 ho7 hs7 hb7)
      go_roundw
      case rel => exact ⟨k + 1, by go_num, by omega, by rw [HES.out, ← List.append_assoc, HX.out]; exact ho7, hbl.trans ((Below.refl base wr).alloc (by omega) _ |>.trans hb7)⟩
      case measure => simp [intOf]; omega
    · obtain rfl : k = 8 := by omega
      go_wp2
      go_ret
      exact ⟨_, rfl, ho, hbl⟩

/-- A word divided by 256 so often. -/
def shiftN (h : UInt64) (k : Nat) : Int := ((h.toNat / 256 ^ k : Nat) : Int)
theorem shiftN_zero (h : UInt64) : shiftN h 0 = (h.toNat : Int) := by unfold shiftN; simp
theorem shiftN_step (h : UInt64) (k : Nat) : IntKind.u64.wrap ((shiftN h k).tdiv 256) = shiftN h (k + 1) := by
  unfold shiftN
  have hl := h.toNat_lt
  have h1 : h.toNat / 256 ^ k ≤ h.toNat := Nat.div_le_self _ _
  rw [Nat.pow_succ, ← Nat.div_div_eq_div_mul]
  generalize h.toNat / 256 ^ k = q at *
  rw [Int.tdiv_eq_ediv_of_nonneg (by omega), wrap_u64_in _ (by omega) (by omega)]
  omega
theorem shiftN_byte (h : UInt64) (k : Nat) : (shiftN h k).tmod 256 % 256 = ((Sum.byte h k).toNat : Int) := by
  unfold shiftN Sum.byte
  generalize h.toNat / 256 ^ k = q
  rw [Int.tmod_eq_emod_of_nonneg (by omega), UInt8.toNat_ofNat']
  omega

set_option maxHeartbeats 800000 in
theorem reight_w (h : UInt64) {w : World} :
    Calls Try.prog 53 #[.int .u64 (h.toNat : Int)] w fun e w' => ∃ v', e = .returned v' ∧ Sl eb w' v' (Sum.eightN h) ∧ Below w.heap.size w w' := by
  obtain ⟨i0, hi, hz0, hz1, hz2⟩ := info_parts Try.info5'
  have HZ := Lib.hid (shiftN_zero h)
  go_enter Try.func53, Try.ntmps53
  go_wp2
  go_loopw [0, 3, 4] (fun s0 s3 i wr => ∃ k : Nat, i = .int .i64 k ∧ k ≤ 8 ∧ s0 = .int .u64 (shiftN h k) ∧ wr.ownsRow w.heap.size 5 1 s3 k (((List.range k).map (Sum.byte h)).map eb) ∧ Below w.heap.size w wr) (fun _ _ i _ => 8 - (intOf i).toNat)
  case atStart => exact ⟨0, rfl, by omega, by rw [HZ.out], World.ownsRow_nil _ _ _ _, Below.refl _ _⟩
  case round =>
    obtain ⟨k, rfl, hk, rfl, ho, hbl⟩ := hrel
    obtain ⟨a1, c1, rfl⟩ := own_slice ho
    by_cases hlt : k < 8
    · have f1 : (k : Int) < 8 := by omega
      have hbv := shiftN_byte h k
      have hsv := shiftN_step h k
      have HES := Lib.hid (eight_succ h k)
      have hbs := hbl.size
      generalize Sum.byte h k = c at *
      generalize shiftN h k = q at *
      generalize (List.range k).map (Sum.byte h) = X at *
      go_wp2_with (at_builtin; refine wpList_append_rd eb (fun _ => rfl) rfl (.tmp 9) (.tmp 13) 29 rfl w.heap.size 5 i0 (.int .u8 0) 1 Try.underlying29 hi hz0 hz1 hz2 rfl (.slice a1 k c1) k X rfl (ho.alloc _) (some ⟨wr.heap.size, 0, none⟩) 1 [c] 1 rfl rfl (by simp) (by omega) (Rd.one eb wr c _ _) (by unfold maxLen; omega) (by omega) (by simp; omega) ?_; intro v7 w7 ho7 hs7 hb7)
      go_roundw
      case rel => exact ⟨k + 1, by go_num, by omega, by first | rfl | (rw [hsv]), by rw [HES.out]; exact ho7, hbl.trans ((Below.refl w.heap.size wr).alloc (by omega) _ |>.trans hb7)⟩
      case measure => simp [intOf]; omega
    · obtain rfl : k = 8 := by omega
      go_wp2
      go_ret
      exact ⟨_, rfl, Sl.ofOwn ho, hbl⟩
end Go.Proofs.Ytcbgablnbgpjdaa
