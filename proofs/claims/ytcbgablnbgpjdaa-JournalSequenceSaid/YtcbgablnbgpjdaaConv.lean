/-
  No statement is proved here: bytes that are converted to a string.
-/
import Derived.Test.YtcbgablnbgpjdaaRows
import Derived.Test.YtcbgablnbgpjdaaMem2
import Derived.Laws.BytesArg
namespace Go.Proofs.Ytcbgablnbgpjdaa
open Go.RowKit

theorem strOf_bytes (xs : List UInt8) : strOfNums (xs.map fun b => (b.toNat : Int)) = ⟨xs.toArray⟩ := by
  unfold strOfNums
  rw [List.map_map]
  congr 2
  conv => rhs; rw [← List.map_id xs]
  apply List.map_congr_left
  intro b _
  simp

theorem conv_run (w : World) (a : Option Addr) (xs : List UInt8) (c : Nat) (h : Rd eb w a xs) : (convert 29 9 (.slice a xs.length c)).run Try.prog w = .ok (.string ⟨xs.toArray⟩) w := by
  have h1 : Try.prog.underlying 29 = some (.slice 5) := rfl
  have h2 : Try.prog.underlying 5 = some (.int .u8) := rfl
  have h3 : Try.prog.underlying 9 = some .string := rfl
  by_cases h0 : 0 < xs.length
  · obtain ⟨b, off, rfl, hb, hc⟩ := h.form h0
    have := run_convert_bytes_arg (P := Try.prog) w 29 5 h1 h2 b off xs.length c (xs.map fun b => (b.toNat : Int)) (by simp) (fun i hi => by
      rw [hc i hi]; simp [eb, hi]) 9 h3
    rw [strOf_bytes] at this
    exact this
  · obtain rfl : xs = [] := List.eq_nil_of_length_eq_zero (by omega)
    cases a with
    | none => exact run_convert_bytes_nil (P := Try.prog) w 29 5 h1 h2 0 c 9 h3
    | some p =>
      rw [run_convert_bytes_string w _ _ _ _ _ _ h1 h2 h3]
      have := run_bytesToString (P := Try.prog) w p 0 c [] (by simpa using run_loadCells_list (P := Try.prog) w p [] (by simp))
      exact this

/-- A slice of known length as a string. -/
theorem conv_sl {w : World} {a : Option Addr} {n c : Nat} {xs : List UInt8} (h : Sl eb w (.slice a n c) xs) : (convert 29 9 (.slice a n c)).run Try.prog w = .ok (.string ⟨xs.toArray⟩) w := by
  obtain ⟨a2, c2, q, -, -, -, hr⟩ := h
  injection q with q1 q2 q3
  subst q1 q2 q3
  exact conv_run w _ xs _ hr

theorem eb_ne {x y : UInt8} (h : x ≠ y) : ((x.toNat : Int) != (y.toNat : Int)) = true := by
  rw [bne_iff_ne]; intro e; exact h (UInt8.toNat_inj.1 (by omega))
theorem eb_ne' {x y : UInt8} (h : x ≠ y) : ((x.toNat : Int) == (y.toNat : Int)) = false := by
  rw [beq_eq_false_iff_ne]; intro e; exact h (UInt8.toNat_inj.1 (by omega))
end Go.Proofs.Ytcbgablnbgpjdaa
