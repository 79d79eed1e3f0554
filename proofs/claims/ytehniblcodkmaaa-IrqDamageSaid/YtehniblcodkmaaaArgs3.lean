/-
  A message and a change laid open (arguments of IrqMessage and IrqDamage).
-/
import Derived.Test.YtehniblcodkmaaaArgs
namespace Go.Proofs.Ytehniblcodkmaaa
open Go.RowKit Go.ChangeShapes Go.WideShapes

def IsMsg (w : World) (v : Value) : Prop := ∃ src dst kind seq a0 a1 a2 a3 u xs, v = .agg #[.int .i64 src, .int .i64 dst, .int .i64 kind, .int .i64 seq, .int .i64 a0, .int .i64 a1, .int .i64 a2, .int .i64 a3, u] ∧ Sl eb w u xs
def IsChange (_ : World) (v : Value) : Prop := ∃ a b c : UInt8, v = .agg #[eb a, eb b, eb c]

section
variable {w : World} {r : Reach} {b : Nat} {v : Value}

set_option maxRecDepth 20000 in
theorem open_msg (hv : Value.okWide Try.prog w r b 64 v) (h : Arg w 64 v.cells.toList) : IsMsg w v := by
  obtain ⟨h1, h2⟩ := h.struct Try.underlying64
  have hc : Try.prog.cellsOf 64 = 9 := by kernel_rfl
  have hm : Try.prog.cellsOf 62 = 4 := by kernel_rfl
  have hi : Try.prog.cellsOf 3 = 1 := by kernel_rfl
  have hb : Try.prog.cellsOf 35 = 1 := by kernel_rfl
  have g0 : Arg w 3 ((v.cells.toList.drop 0).take (Try.prog.cellsOf 3)) := h2 0 _ rfl
  have g1 : Arg w 3 ((v.cells.toList.drop 1).take (Try.prog.cellsOf 3)) := h2 1 _ rfl
  have g2 : Arg w 3 ((v.cells.toList.drop 2).take (Try.prog.cellsOf 3)) := h2 2 _ rfl
  have g3 : Arg w 3 ((v.cells.toList.drop 3).take (Try.prog.cellsOf 3)) := h2 3 _ rfl
  have g4 : Arg w 62 ((v.cells.toList.drop 4).take (Try.prog.cellsOf 62)) := h2 4 _ rfl
  have g5 : Arg w 35 ((v.cells.toList.drop 8).take (Try.prog.cellsOf 35)) := h2 5 _ rfl
  rw [hi] at g0 g1 g2 g3
  rw [hm] at g4
  rw [hb] at g5
  rw [hc] at h1
  obtain ⟨-, ga⟩ := g4.array Try.underlying62
  rw [hi] at ga
  obtain ⟨s, e0, -⟩ := g0.int Try.underlying3
  obtain ⟨d, e1, -⟩ := g1.int Try.underlying3
  obtain ⟨k, e2, -⟩ := g2.int Try.underlying3
  obtain ⟨q, e3, -⟩ := g3.int Try.underlying3
  obtain ⟨m0, f0, -⟩ := (ga 0 (by omega)).int Try.underlying3
  obtain ⟨m1, f1, -⟩ := (ga 1 (by omega)).int Try.underlying3
  obtain ⟨m2, f2, -⟩ := (ga 2 (by omega)).int Try.underlying3
  obtain ⟨m3, f3, -⟩ := (ga 3 (by omega)).int Try.underlying3
  obtain ⟨u, xs, e5, hsl⟩ := g5.bytes Try.underlying35 Try.underlying5 (by kernel_rfl)
  refine ⟨s, d, k, q, m0, m1, m2, m3, u, xs, cells_struct Try.underlying64 hv ?_, hsl⟩
  match hvl : v.cells.toList, h1 with
  | [c0, c1, c2, c3, c4, c5, c6, c7, c8], _ =>
    rw [hvl] at e0 e1 e2 e3 f0 f1 f2 f3 e5
    simp at e0 e1 e2 e3 f0 f1 f2 f3 e5
    subst e0 e1 e2 e3 f0 f1 f2 f3 e5; exact rfl

theorem u8_of {n : Int} (h : (Lit.int .u8 n).wf = true) : ∃ x : UInt8, Value.int .u8 n = eb x := by
  obtain ⟨h0, h1⟩ := wf_u8 h
  refine ⟨UInt8.ofNat n.toNat, ?_⟩
  unfold eb
  rw [UInt8.toNat_ofNat', Nat.mod_eq_of_lt (by omega)]
  congr 1
  omega

theorem open_change (hv : Value.okWide Try.prog w r b 75 v) (h : Arg w 75 v.cells.toList) : IsChange w v := by
  obtain ⟨h1, h2⟩ := h.struct Try.underlying75
  have hc : Try.prog.cellsOf 75 = 3 := by kernel_rfl
  have hb : Try.prog.cellsOf 5 = 1 := by kernel_rfl
  have g0 : Arg w 5 ((v.cells.toList.drop 0).take (Try.prog.cellsOf 5)) := h2 0 _ rfl
  have g1 : Arg w 5 ((v.cells.toList.drop 1).take (Try.prog.cellsOf 5)) := h2 1 _ rfl
  have g2 : Arg w 5 ((v.cells.toList.drop 2).take (Try.prog.cellsOf 5)) := h2 2 _ rfl
  rw [hb] at g0 g1 g2
  rw [hc] at h1
  obtain ⟨x, e0, w0⟩ := g0.int Try.underlying5
  obtain ⟨y, e1, w1⟩ := g1.int Try.underlying5
  obtain ⟨z, e2, w2⟩ := g2.int Try.underlying5
  obtain ⟨x', f0⟩ := u8_of w0
  obtain ⟨y', f1⟩ := u8_of w1
  obtain ⟨z', f2⟩ := u8_of w2
  refine ⟨x', y', z', cells_struct Try.underlying75 hv ?_⟩
  match hvl : v.cells.toList, h1 with
  | [c0, c1, c2], _ =>
    rw [hvl] at e0 e1 e2
    simp at e0 e1 e2
    rw [e0, e1, e2, f0, f1, f2]
end
end Go.Proofs.Ytehniblcodkmaaa
