/-
  The arguments of the laws laid open.
-/
import Derived.Test.YtkgheilaleekdaaOpen
namespace Go.Proofs.Ytkgheilaleekdaa
open Go.RowKit Go.ChangeShapes Go.WideShapes

def IsMem (w : World) (v : Value) : Prop := ∃ u ps, v = .agg #[u] ∧ Pg w u ps
def IsAt (_ : World) (v : Value) : Prop := ∃ f x n : Int, v = .agg #[.int .i64 f, .int .i64 x, .int .i64 n] ∧ (-9223372036854775808 ≤ f ∧ f ≤ 9223372036854775807) ∧ (-9223372036854775808 ≤ x ∧ x ≤ 9223372036854775807) ∧ (-9223372036854775808 ≤ n ∧ n ≤ 9223372036854775807)
def IsBytes (w : World) (v : Value) : Prop := ∃ xs, Sl eb w v xs
def IsI64 (_ : World) (v : Value) : Prop := ∃ n : Int, v = .int .i64 n ∧ -9223372036854775808 ≤ n ∧ n ≤ 9223372036854775807
def IsU8 (_ : World) (v : Value) : Prop := ∃ n : UInt8, v = eb n
def IsInts2 (_ : World) (v : Value) : Prop := ∃ x y : Int, v = .agg #[.int .i64 x, .int .i64 y] ∧ (-9223372036854775808 ≤ x ∧ x ≤ 9223372036854775807) ∧ (-9223372036854775808 ≤ y ∧ y ≤ 9223372036854775807)

section
variable {w : World} {r : Reach} {b : Nat} {v : Value}

theorem open_mem (hv : Value.okWide Try.prog w r b 24 v) (h : Arg w 24 v.cells.toList) : IsMem w v := by
  obtain ⟨h1, h2⟩ := h.struct Try.underlying24
  have hc : Try.prog.cellsOf 24 = 1 := by kernel_rfl
  have hs : Try.prog.cellsOf 22 = 1 := by kernel_rfl
  have h3 : Arg w 22 ((v.cells.toList.drop 0).take (Try.prog.cellsOf 22)) := h2 0 _ rfl
  rw [hs] at h3
  obtain ⟨u, ps, e, hp⟩ := h3.pages Try.underlying22 Try.underlying27 Try.underlying5 (by kernel_rfl) (by kernel_rfl)
  refine ⟨u, ps, ?_, hp⟩
  refine cells_struct Try.underlying24 hv ?_
  rw [hc] at h1
  rw [← e, List.drop_zero, List.take_of_length_le (by omega)]

theorem open_at (hv : Value.okWide Try.prog w r b 26 v) (h : Arg w 26 v.cells.toList) : IsAt w v := by
  obtain ⟨h1, h2⟩ := h.struct Try.underlying26
  have hc : Try.prog.cellsOf 26 = 3 := by kernel_rfl
  have hs : Try.prog.cellsOf 3 = 1 := by kernel_rfl
  have g0 : Arg w 3 ((v.cells.toList.drop 0).take (Try.prog.cellsOf 3)) := h2 0 _ rfl
  have g1 : Arg w 3 ((v.cells.toList.drop 1).take (Try.prog.cellsOf 3)) := h2 1 _ rfl
  have g2 : Arg w 3 ((v.cells.toList.drop 2).take (Try.prog.cellsOf 3)) := h2 2 _ rfl
  rw [hs] at g0 g1 g2
  rw [hc] at h1
  obtain ⟨f, e0, w0⟩ := g0.int Try.underlying3
  obtain ⟨x, e1, w1⟩ := g1.int Try.underlying3
  obtain ⟨n, e2, w2⟩ := g2.int Try.underlying3
  refine ⟨f, x, n, ?_, wf_i64 w0, wf_i64 w1, wf_i64 w2⟩
  refine cells_struct Try.underlying26 hv ?_
  match hl : v.cells.toList, h1 with
  | [c0, c1, c2], _ =>
    rw [hl] at e0 e1 e2
    simp at e0 e1 e2
    rw [e0, e1, e2]

theorem open_bytes (hv : Value.okWide Try.prog w r b 27 v) (h : Arg w 27 v.cells.toList) : IsBytes w v := by
  obtain ⟨u, xs, e, hs⟩ := h.bytes Try.underlying27 Try.underlying5 (by kernel_rfl)
  rw [cells_slice Try.underlying27 hv e]
  exact ⟨xs, hs⟩

theorem open_i64 (hv : Value.okWide Try.prog w r b 3 v) (h : Arg w 3 v.cells.toList) : IsI64 w v := by
  obtain ⟨n, e, hw⟩ := h.int Try.underlying3
  exact ⟨n, cells_int Try.underlying3 hv e, wf_i64 hw⟩

theorem open_u8 (hv : Value.okWide Try.prog w r b 5 v) (h : Arg w 5 v.cells.toList) : IsU8 w v := by
  obtain ⟨n, e, hw⟩ := h.int Try.underlying5
  obtain ⟨h0, h1⟩ := wf_u8 hw
  refine ⟨UInt8.ofNat n.toNat, ?_⟩
  rw [cells_int Try.underlying5 hv e]
  unfold eb
  rw [UInt8.toNat_ofNat', Nat.mod_eq_of_lt (by omega)]
  congr 1
  omega
end
end Go.Proofs.Ytkgheilaleekdaa
