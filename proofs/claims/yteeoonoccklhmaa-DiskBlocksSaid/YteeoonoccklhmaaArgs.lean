/-
  The arguments of the laws of chapter 11 laid open.
-/
import Derived.Test.YteeoonoccklhmaaOpen
import Derived.Test.YteeoonoccklhmaaDa
namespace Go.Proofs.Yteeoonoccklhmaa
open Go.RowKit Go.ChangeShapes Go.WideShapes

def B64 (n : Int) : Prop := -9223372036854775808 ≤ n ∧ n ≤ 9223372036854775807
def IsI64 (_ : World) (v : Value) : Prop := ∃ n : Int, v = .int .i64 n ∧ B64 n
def IsU16 (_ : World) (v : Value) : Prop := ∃ n : Int, v = .int .u16 n ∧ 0 ≤ n ∧ n ≤ 65535
def IsBytes (w : World) (v : Value) : Prop := ∃ xs, Sl eb w v xs
def IsCmd (w : World) (v : Value) : Prop := ∃ t q p u xs, v = .agg #[.int .i64 t, .int .i64 q, .int .i64 p, u] ∧ Sl eb w u xs ∧ B64 t ∧ B64 q ∧ B64 p
def IsDisk (w : World) (v : Value) : Prop := ∃ o ct co cp l lt la ub uc ul bs cd ld, v = .agg #[ub, .bool o, .int .i64 ct, .int .i64 co, .int .i64 cp, uc, .int .i64 l, .int .i64 lt, .int .i64 la, ul] ∧ Dr w ub uc ul bs cd ld ∧ B64 ct ∧ B64 cp ∧ B64 l ∧ B64 lt

section
variable {w : World} {r : Reach} {b : Nat} {v : Value}

theorem open_i64 (hv : Value.okWide Try.prog w r b 3 v) (h : Arg w 3 v.cells.toList) : IsI64 w v := by
  obtain ⟨n, e, hw⟩ := h.int Try.underlying3
  exact ⟨n, cells_int Try.underlying3 hv e, wf_i64 hw⟩

theorem open_bytes (hv : Value.okWide Try.prog w r b 23 v) (h : Arg w 23 v.cells.toList) : IsBytes w v := by
  obtain ⟨u, xs, e, hs⟩ := h.bytes Try.underlying23 Try.underlying5 (by kernel_rfl)
  exact ⟨xs, by rw [cells_slice Try.underlying23 hv e]; exact hs⟩

theorem cmd_cells {cs : List Value} (h : Arg w 25 cs) : ∃ (t q p : Int) (u : Value) (xs : List UInt8), cs = [.int .i64 t, .int .i64 q, .int .i64 p, u] ∧ Sl eb w u xs ∧ B64 t ∧ B64 q ∧ B64 p := by
  obtain ⟨h1, h2⟩ := h.struct Try.underlying25
  have hc : Try.prog.cellsOf 25 = 4 := by kernel_rfl
  have hs : Try.prog.cellsOf 3 = 1 := by kernel_rfl
  have hb : Try.prog.cellsOf 23 = 1 := by kernel_rfl
  have g0 : Arg w 3 ((cs.drop 0).take (Try.prog.cellsOf 3)) := h2 0 _ rfl
  have g1 : Arg w 3 ((cs.drop 1).take (Try.prog.cellsOf 3)) := h2 1 _ rfl
  have g2 : Arg w 3 ((cs.drop 2).take (Try.prog.cellsOf 3)) := h2 2 _ rfl
  have g3 : Arg w 23 ((cs.drop 3).take (Try.prog.cellsOf 23)) := h2 3 _ rfl
  rw [hs] at g0 g1 g2
  rw [hb] at g3
  rw [hc] at h1
  obtain ⟨d, e0, w0⟩ := g0.int Try.underlying3
  obtain ⟨t, e1, w1⟩ := g1.int Try.underlying3
  obtain ⟨n, e2, w2⟩ := g2.int Try.underlying3
  obtain ⟨u, xs, e3, hsl⟩ := g3.bytes Try.underlying23 Try.underlying5 (by kernel_rfl)
  refine ⟨d, t, n, u, xs, ?_, hsl, wf_i64 w0, wf_i64 w1, wf_i64 w2⟩
  match cs, h1 with
  | [c0, c1, c2, c3], _ =>
    simp at e0 e1 e2 e3
    rw [e0, e1, e2, e3]

theorem open_cmd (hv : Value.okWide Try.prog w r b 25 v) (h : Arg w 25 v.cells.toList) : IsCmd w v := by
  obtain ⟨t, q, p, u, xs, e, hsl, b0, b1, b2⟩ := cmd_cells h
  exact ⟨t, q, p, u, xs, cells_struct Try.underlying25 hv e, hsl, b0, b1, b2⟩

theorem ans_cells {cs : List Value} (h : Arg w 27 cs) : ∃ (t a : Int) (u : Value) (xs : List UInt8), cs = [.int .i64 t, .int .i64 a, u] ∧ Sl eb w u xs ∧ B64 t := by
  obtain ⟨h1, h2⟩ := h.struct Try.underlying27
  have hc : Try.prog.cellsOf 27 = 3 := by kernel_rfl
  have hs : Try.prog.cellsOf 3 = 1 := by kernel_rfl
  have hb : Try.prog.cellsOf 23 = 1 := by kernel_rfl
  have g0 : Arg w 3 ((cs.drop 0).take (Try.prog.cellsOf 3)) := h2 0 _ rfl
  have g1 : Arg w 3 ((cs.drop 1).take (Try.prog.cellsOf 3)) := h2 1 _ rfl
  have g3 : Arg w 23 ((cs.drop 2).take (Try.prog.cellsOf 23)) := h2 2 _ rfl
  rw [hs] at g0 g1
  rw [hb] at g3
  rw [hc] at h1
  obtain ⟨d, e0, w0⟩ := g0.int Try.underlying3
  obtain ⟨t, e1, w1⟩ := g1.int Try.underlying3
  obtain ⟨u, xs, e3, hsl⟩ := g3.bytes Try.underlying23 Try.underlying5 (by kernel_rfl)
  refine ⟨d, t, u, xs, ?_, hsl, wf_i64 w0⟩
  match cs, h1 with
  | [c0, c1, c2], _ =>
    simp at e0 e1 e3
    rw [e0, e1, e3]

theorem chan_cells {cs : List Value} (h : Arg w 29 cs) : ∃ (o : Bool) (ct co cp l lt la : Int) (uc ul : Value) (cd ld : List UInt8), cs = [.bool o, .int .i64 ct, .int .i64 co, .int .i64 cp, uc, .int .i64 l, .int .i64 lt, .int .i64 la, ul] ∧ Sl eb w uc cd ∧ Sl eb w ul ld ∧ B64 ct ∧ B64 cp ∧ B64 l ∧ B64 lt := by
  obtain ⟨h1, h2⟩ := h.struct Try.underlying29
  have hc : Try.prog.cellsOf 29 = 9 := by kernel_rfl
  have hs : Try.prog.cellsOf 3 = 1 := by kernel_rfl
  have hb : Try.prog.cellsOf 4 = 1 := by kernel_rfl
  have hm : Try.prog.cellsOf 25 = 4 := by kernel_rfl
  have ha : Try.prog.cellsOf 27 = 3 := by kernel_rfl
  have g0 : Arg w 4 ((cs.drop 0).take (Try.prog.cellsOf 4)) := h2 0 _ rfl
  have g1 : Arg w 25 ((cs.drop 1).take (Try.prog.cellsOf 25)) := h2 1 _ rfl
  have g2 : Arg w 3 ((cs.drop 5).take (Try.prog.cellsOf 3)) := h2 2 _ rfl
  have g3 : Arg w 27 ((cs.drop 6).take (Try.prog.cellsOf 27)) := h2 3 _ rfl
  rw [hb] at g0
  rw [hm] at g1
  rw [hs] at g2
  rw [ha] at g3
  rw [hc] at h1
  obtain ⟨o, e0⟩ := g0.bool Try.underlying4
  obtain ⟨ct, co, cp, uc, cd, e1, s1, b1, -, b2⟩ := cmd_cells g1
  obtain ⟨l, e2, w2⟩ := g2.int Try.underlying3
  obtain ⟨lt, la, ul, ld, e3, s3, b3⟩ := ans_cells g3
  refine ⟨o, ct, co, cp, l, lt, la, uc, ul, cd, ld, ?_, s1, s3, b1, b2, wf_i64 w2, b3⟩
  match cs, h1 with
  | [c0, c1, c2, c3, c4, c5, c6, c7, c8], _ =>
    simp at e0 e1 e2 e3
    obtain ⟨f1, f2, f3, f4⟩ := e1
    obtain ⟨f5, f6, f7⟩ := e3
    subst e0 f1 f2 f3 f4 e2 f5 f6 f7
    exact rfl

theorem open_disk (hv : Value.okWide Try.prog w r b 31 v) (h : Arg w 31 v.cells.toList) : IsDisk w v := by
  obtain ⟨h1, h2⟩ := h.struct Try.underlying31
  have hc : Try.prog.cellsOf 31 = 10 := by kernel_rfl
  have hs : Try.prog.cellsOf 22 = 1 := by kernel_rfl
  have hm : Try.prog.cellsOf 29 = 9 := by kernel_rfl
  have g0 : Arg w 22 ((v.cells.toList.drop 0).take (Try.prog.cellsOf 22)) := h2 0 _ rfl
  have g1 : Arg w 29 ((v.cells.toList.drop 1).take (Try.prog.cellsOf 29)) := h2 1 _ rfl
  rw [hs] at g0
  rw [hm] at g1
  rw [hc] at h1
  obtain ⟨ub, bs, e0, hp⟩ := g0.pages Try.underlying22 Try.underlying23 Try.underlying5 (by kernel_rfl) (by kernel_rfl)
  obtain ⟨o, ct, co, cp, l, lt, la, uc, ul, cd, ld, e1, s1, s2, b1, b2, b3, b4⟩ := chan_cells g1
  refine ⟨o, ct, co, cp, l, lt, la, ub, uc, ul, bs, cd, ld, cells_struct Try.underlying31 hv ?_, ⟨hp, s1, s2⟩, b1, b2, b3, b4⟩
  match hvl : v.cells.toList, h1 with
  | [c0, c1, c2, c3, c4, c5, c6, c7, c8, c9], _ =>
    rw [hvl] at e0 e1
    simp at e0 e1
    obtain ⟨f1, f2, f3, f4, f5, f6, f7, f8, f9⟩ := e1
    subst e0 f1 f2 f3 f4 f5 f6 f7 f8 f9
    exact rfl
end
end Go.Proofs.Yteeoonoccklhmaa
