/-
  The walk of get.
-/
import Derived.Test.YtcbgablnbgpjdaaJd
namespace Jr
theorem get_step (l : List UInt8) (k : Nat) (hk : k < l.length) : get (l.take (k + 1)) = (get (l.take k) <<< 8) ||| l[k].toUInt64 := by
  unfold get
  rw [List.take_succ_eq_append_getElem hk, List.foldl_append]
  rfl
end Jr
namespace Go.Proofs.Ytcbgablnbgpjdaa
open Go.RowKit

theorem or_u64 (a b : UInt64) : bits BinOp.or IntKind.u64 (a.toNat : Int) (b.toNat : Int) = ((a ||| b).toNat : Int) := by
  have ha := a.toNat_lt
  have hb := b.toNat_lt
  have h1 : (BitVec.ofInt 64 (a.toNat : Int)).toNat = a.toNat := by
    rw [BitVec.ofInt_natCast, BitVec.toNat_ofNat]; exact Nat.mod_eq_of_lt ha
  have h2 : (BitVec.ofInt 64 (b.toNat : Int)).toNat = b.toNat := by
    rw [BitVec.ofInt_natCast, BitVec.toNat_ofNat]; exact Nat.mod_eq_of_lt hb
  show IntKind.u64.wrap ((BitVec.ofInt 64 (a.toNat : Int) ||| BitVec.ofInt 64 (b.toNat : Int)).toNat : Int) = _
  rw [BitVec.toNat_or, h1, h2, UInt64.toNat_or]
  have := Nat.or_lt_two_pow ha hb
  exact wrap_u64_in _ (by omega) (by omega)
theorem shl8_u64 (q : UInt64) : IntKind.u64.wrap ((q.toNat : Int) * 256) = ((q <<< 8).toNat : Int) := by
  rw [wrap_u64, UInt64.toNat_shiftLeft]
  have : (8 : UInt64).toNat % 64 = 8 := by decide
  rw [this, Nat.shiftLeft_eq]
  omega

set_option maxHeartbeats 800000 in
theorem get_w {v : Value} {xs : List UInt8} {w : World} (hv : Sl eb w v xs) : Calls Try.prog 42 #[v] w fun e w' => e = .returned (.int .u64 ((Jr.get xs).toNat : Int)) ∧ w = w' := by
  obtain ⟨a, cap, rfl, hc, hcm, hna, hrd⟩ := hv
  unfold maxLen at hcm
  have HRD := Lib.hid hrd
  clear hrd
  go_enter Try.func42, Try.ntmps42
  go_wp2
  go_loop [3, 5, 8] (fun s3 _ i => ∃ k : Nat, i = .int .i64 k ∧ k ≤ xs.length ∧ s3 = .int .u64 ((Jr.get (xs.take k)).toNat : Int)) (fun _ _ i => xs.length - (intOf i).toNat)
  case atStart => exact ⟨0, rfl, Nat.zero_le _, rfl⟩
  case round =>
    obtain ⟨k, rfl, hk, rfl⟩ := hrel
    by_cases hlt : k < xs.length
    · obtain ⟨b, off, rfl, hb, hcell⟩ := HRD.out.form (by omega)
      have hck : w.cell? ⟨b, off + k, none⟩ = some (.int .u8 (xs[k].toNat : Int)) := hcell k hlt
      have HST := Lib.hid (Jr.get_step xs k hlt)
      clear hcell
      have f1 : (0 : Int) ≤ (k : Int) := by omega
      have f2 : (k : Int) < (xs.length : Int) := by omega
      generalize xs[k] = c at *
      generalize Jr.get (xs.take k) = q at *
      go_wp2
      go_round
      case rel => exact ⟨k + 1, by go_num, by omega, by rw [HST.out, byte_u64, shl8_u64, or_u64]⟩
      case measure => simp [intOf]; omega
    · obtain rfl : k = xs.length := by omega
      go_wp2
      go_ret
      exact ⟨ret_int (by simp), rfl⟩
end Go.Proofs.Ytcbgablnbgpjdaa
