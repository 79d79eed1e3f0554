/-
  More arguments of the laws laid open: arrays of two.
-/
import Derived.Test.YtkgheilaleekdaaArgs
namespace Go.Proofs.Ytkgheilaleekdaa
open Go.RowKit Go.ChangeShapes Go.WideShapes

/-- A value of an array type is an aggregate. -/
theorem okWide_agg {P : Program} {w : World} {r : Reach} {b n : Nat} {t e : TypeId} {v : Value} (ht : P.underlying t = some (.array n e)) (hv : Value.okWide P w r b t v) : ∃ cs, v = .agg cs := by
  simp only [Value.okWide, ht] at hv
  obtain ⟨cs, h1, _⟩ := hv
  exact ⟨cs, h1⟩

def IsAts2 (_ : World) (v : Value) : Prop := ∃ f x n g y m : Int, v = .agg #[.int .i64 f, .int .i64 x, .int .i64 n, .int .i64 g, .int .i64 y, .int .i64 m] ∧ (-9223372036854775808 ≤ x ∧ x ≤ 9223372036854775807) ∧ (-9223372036854775808 ≤ y ∧ y ≤ 9223372036854775807)
def IsBytes2 (w : World) (v : Value) : Prop := ∃ u t xs ys, v = .agg #[u, t] ∧ Sl eb w u xs ∧ Sl eb w t ys

section
variable {w : World} {r : Reach} {b : Nat} {v : Value}

theorem open_ints2 (hv : Value.okWide Try.prog w r b 59 v) (h : Arg w 59 v.cells.toList) : IsInts2 w v := by
  have ht : Try.prog.underlying 59 = some (.array 2 3) := by kernel_rfl
  obtain ⟨h1, h2⟩ := h.array ht
  have hc : Try.prog.cellsOf 59 = 2 := by kernel_rfl
  have hs : Try.prog.cellsOf 3 = 1 := by kernel_rfl
  have g0 := h2 0 (by omega)
  have g1 := h2 1 (by omega)
  rw [hs] at g0 g1
  rw [hc] at h1
  obtain ⟨x, e0, w0⟩ := g0.int Try.underlying3
  obtain ⟨y, e1, w1⟩ := g1.int Try.underlying3
  refine ⟨x, y, ?_, wf_i64 w0, wf_i64 w1⟩
  obtain ⟨⟨l⟩, rfl⟩ := okWide_agg ht hv
  have hl : (Value.agg ⟨l⟩).cells.toList = l := rfl
  rw [hl] at h1 e0 e1
  match l, h1 with
  | [c0, c1], _ =>
    simp at e0 e1
    rw [e0, e1]

theorem open_bytes2 (hv : Value.okWide Try.prog w r b 55 v) (h : Arg w 55 v.cells.toList) : IsBytes2 w v := by
  have ht : Try.prog.underlying 55 = some (.array 2 27) := by kernel_rfl
  obtain ⟨h1, h2⟩ := h.array ht
  have hc : Try.prog.cellsOf 55 = 2 := by kernel_rfl
  have hs : Try.prog.cellsOf 27 = 1 := by kernel_rfl
  have g0 := h2 0 (by omega)
  have g1 := h2 1 (by omega)
  rw [hs] at g0 g1
  rw [hc] at h1
  obtain ⟨u, xs, e0, w0⟩ := g0.bytes Try.underlying27 Try.underlying5 (by kernel_rfl)
  obtain ⟨t, ys, e1, w1⟩ := g1.bytes Try.underlying27 Try.underlying5 (by kernel_rfl)
  refine ⟨u, t, xs, ys, ?_, w0, w1⟩
  obtain ⟨⟨l⟩, rfl⟩ := okWide_agg ht hv
  have hl : (Value.agg ⟨l⟩).cells.toList = l := rfl
  rw [hl] at h1 e0 e1
  match l, h1 with
  | [c0, c1], _ =>
    simp at e0 e1
    rw [e0, e1]

/-- The three numbers of a place. -/
theorem at_cells {cs : List Value} (h : Arg w 26 cs) : ∃ f x n : Int, cs = [.int .i64 f, .int .i64 x, .int .i64 n] ∧ (-9223372036854775808 ≤ x ∧ x ≤ 9223372036854775807) := by
  obtain ⟨h1, h2⟩ := h.struct Try.underlying26
  have hc : Try.prog.cellsOf 26 = 3 := by kernel_rfl
  have hs : Try.prog.cellsOf 3 = 1 := by kernel_rfl
  have g0 : Arg w 3 ((cs.drop 0).take (Try.prog.cellsOf 3)) := h2 0 _ rfl
  have g1 : Arg w 3 ((cs.drop 1).take (Try.prog.cellsOf 3)) := h2 1 _ rfl
  have g2 : Arg w 3 ((cs.drop 2).take (Try.prog.cellsOf 3)) := h2 2 _ rfl
  rw [hs] at g0 g1 g2
  rw [hc] at h1
  obtain ⟨f, e0, w0⟩ := g0.int Try.underlying3
  obtain ⟨x, e1, w1⟩ := g1.int Try.underlying3
  obtain ⟨n, e2, w2⟩ := g2.int Try.underlying3
  refine ⟨f, x, n, ?_, wf_i64 w1⟩
  match cs, h1 with
  | [c0, c1, c2], _ =>
    simp at e0 e1 e2
    rw [e0, e1, e2]

theorem open_ats2 (hv : Value.okWide Try.prog w r b 54 v) (h : Arg w 54 v.cells.toList) : IsAts2 w v := by
  have ht : Try.prog.underlying 54 = some (.array 2 26) := by kernel_rfl
  obtain ⟨h1, h2⟩ := h.array ht
  have hc : Try.prog.cellsOf 54 = 6 := by kernel_rfl
  have hs : Try.prog.cellsOf 26 = 3 := by kernel_rfl
  have g0 := h2 0 (by omega)
  have g1 := h2 1 (by omega)
  rw [hs] at g0 g1
  rw [hc] at h1
  obtain ⟨f, x, n, e0, w0⟩ := at_cells g0
  obtain ⟨g, y, m, e1, w1⟩ := at_cells g1
  refine ⟨f, x, n, g, y, m, ?_, w0, w1⟩
  obtain ⟨⟨l⟩, rfl⟩ := okWide_agg ht hv
  have hl : (Value.agg ⟨l⟩).cells.toList = l := rfl
  rw [hl] at h1 e0 e1
  match l, h1 with
  | [c0, c1, c2, c3, c4, c5], _ =>
    simp at e0 e1
    rw [e0.1, e0.2.1, e0.2.2, e1.1, e1.2.1, e1.2.2]
end
end Go.Proofs.Ytkgheilaleekdaa
