/-
  The arguments of the laws laid open.
-/
import Derived.Test.YtcbgablnbgpjdaaOpenM
import Derived.Test.YtcbgablnbgpjdaaAwk
import Derived.Test.YtcbgablnbgpjdaaJc
namespace Go.Proofs.Ytcbgablnbgpjdaa
open Go.RowKit Go.ChangeShapes Go.WideShapes

def IsI64 (_ : World) (v : Value) : Prop := ∃ n : Int, v = .int .i64 n ∧ -9223372036854775808 ≤ n ∧ n ≤ 9223372036854775807
def IsU8 (_ : World) (v : Value) : Prop := ∃ n : UInt8, v = eb n
def IsWrs (w : World) (v : Value) : Prop := ∃ ls, Wp w v ls
def IsSp (w : World) (v : Value) : Prop := ∃ x, SpV w v x
def IsChg (_ : World) (v : Value) : Prop := ∃ (n : Nat) (c : UInt8), v = .agg #[.int .u16 n, eb c] ∧ n < 65536

section
variable {w : World} {r : Reach} {b : Nat} {v : Value}
theorem open_i64 (hv : Value.okWide Try.prog w r b 3 v) (h : Arg w 3 v.cells.toList) : IsI64 w v := by
  obtain ⟨n, e, hw⟩ := h.int Try.underlying3
  exact ⟨n, cells_int Try.underlying3 hv e, wf_i64 hw⟩
theorem u8_of {n : Int} (hw : (Lit.int .u8 n).wf = true) : Value.int .u8 n = eb (UInt8.ofNat n.toNat) := by
  obtain ⟨h0, h1⟩ := wf_u8 hw
  unfold eb
  rw [UInt8.toNat_ofNat', Nat.mod_eq_of_lt (by omega)]
  congr 1
  omega
theorem open_u8 (hv : Value.okWide Try.prog w r b 5 v) (h : Arg w 5 v.cells.toList) : IsU8 w v := by
  obtain ⟨n, e, hw⟩ := h.int Try.underlying5
  exact ⟨_, by rw [cells_int Try.underlying5 hv e]; exact u8_of hw⟩

theorem wr_cells {cs : List Value} (h : Arg w 66 cs) : ∃ (n : Int) (u : Value) (xs : List UInt8), cs = [.int .i64 n, u] ∧ Sl eb w u xs := by
  obtain ⟨h1, h2⟩ := h.struct Try.underlying66
  have hc : Try.prog.cellsOf 66 = 2 := by kernel_rfl
  have hs : Try.prog.cellsOf 3 = 1 := by kernel_rfl
  have hb : Try.prog.cellsOf 29 = 1 := by kernel_rfl
  have g0 : Arg w 3 ((cs.drop 0).take (Try.prog.cellsOf 3)) := h2 0 _ rfl
  have g1 : Arg w 29 ((cs.drop 1).take (Try.prog.cellsOf 29)) := h2 1 _ rfl
  rw [hs] at g0
  rw [hb] at g1
  rw [hc] at h1
  obtain ⟨d, e0, w0⟩ := g0.int Try.underlying3
  obtain ⟨u, xs, e1, hsl⟩ := g1.bytes Try.underlying29 Try.underlying5 (by kernel_rfl)
  refine ⟨d, u, xs, ?_, hsl⟩
  match cs, h1 with
  | [c0, c1], _ =>
    simp at e0 e1
    rw [e0, e1]

theorem wrs_cells {cs : List Value} (h : Arg w 22 cs) : ∃ u ls, cs = [u] ∧ Wp w u ls := by
  obtain ⟨u, es, e, hs, hR⟩ := h.multi (s := 2) (enc := ew) (R := fun e => ∃ x, WrR w e x) Try.underlying22 (by kernel_rfl) (by omega) (fun cs h' => by
    obtain ⟨n, u, xs, rfl, hsl⟩ := wr_cells h'
    obtain ⟨a, c, rfl, -⟩ := id hsl
    exact ⟨(n, a, xs.length, c), rfl, (n, xs), rfl, hsl⟩)
  have hls : ∃ ls : List Jr.Wr, WsR w es ls := by
    clear hs e
    induction es with
    | nil => exact ⟨[], WsR.nil⟩
    | cons e es ih =>
      obtain ⟨ls, hl⟩ := ih (fun x hx => hR x (List.mem_cons_of_mem _ hx))
      obtain ⟨l, h1⟩ := hR e (by simp)
      refine ⟨l :: ls, by simp [hl.1], fun i hi hi' => ?_⟩
      cases i with
      | zero => exact h1
      | succ i => exact hl.2 i (by simpa using hi) (by simpa using hi')
  obtain ⟨ls, hl⟩ := hls
  exact ⟨u, ls, e, es, hs, hl⟩

theorem open_wrs (hv : Value.okWide Try.prog w r b 22 v) (h : Arg w 22 v.cells.toList) : IsWrs w v := by
  obtain ⟨u, ls, e, hw⟩ := wrs_cells h
  rw [cells_slice Try.underlying22 hv e]
  exact ⟨ls, hw⟩

theorem open_sparse (hv : Value.okWide Try.prog w r b 25 v) (h : Arg w 25 v.cells.toList) : IsSp w v := by
  obtain ⟨h1, h2⟩ := h.struct Try.underlying25
  have hc : Try.prog.cellsOf 25 = 3 := by kernel_rfl
  have hs : Try.prog.cellsOf 23 = 1 := by kernel_rfl
  have hb : Try.prog.cellsOf 22 = 1 := by kernel_rfl
  have g0 : Arg w 22 ((v.cells.toList.drop 0).take (Try.prog.cellsOf 22)) := h2 0 _ rfl
  have g1 : Arg w 23 ((v.cells.toList.drop 1).take (Try.prog.cellsOf 23)) := h2 1 _ rfl
  have g2 : Arg w 22 ((v.cells.toList.drop 2).take (Try.prog.cellsOf 22)) := h2 2 _ rfl
  rw [hs] at g1
  rw [hb] at g0 g2
  rw [hc] at h1
  obtain ⟨u0, l0, e0, k0⟩ := wrs_cells g0
  obtain ⟨q, e1, w1⟩ := g1.int Try.underlying23
  obtain ⟨u2, l2, e2, k2⟩ := wrs_cells g2
  have hq : 0 ≤ q ∧ q ≤ 4294967295 := by simpa [Lit.wf, IntKind.min, IntKind.max, IntKind.signed, IntKind.bits] using w1
  refine ⟨(l0, q, l2), u0, u2, cells_struct Try.underlying25 hv ?_, k0, k2, hq.1, by show q < 4294967296; omega⟩
  match hvl : v.cells.toList, h1 with
  | [c0, c1, c2], _ =>
    rw [hvl] at e0 e1 e2
    simp at e0 e1 e2
    rw [e0, e1, e2]

theorem open_chg (hv : Value.okWide Try.prog w r b 44 v) (h : Arg w 44 v.cells.toList) : IsChg w v := by
  obtain ⟨h1, h2⟩ := h.struct Try.underlying44
  have hc : Try.prog.cellsOf 44 = 2 := by kernel_rfl
  have hs : Try.prog.cellsOf 42 = 1 := by kernel_rfl
  have hb : Try.prog.cellsOf 5 = 1 := by kernel_rfl
  have g0 : Arg w 42 ((v.cells.toList.drop 0).take (Try.prog.cellsOf 42)) := h2 0 _ rfl
  have g1 : Arg w 5 ((v.cells.toList.drop 1).take (Try.prog.cellsOf 5)) := h2 1 _ rfl
  rw [hs] at g0
  rw [hb] at g1
  rw [hc] at h1
  obtain ⟨q, e0, w0⟩ := g0.int Try.underlying42
  obtain ⟨n, e1, w1⟩ := g1.int Try.underlying5
  have hq : 0 ≤ q ∧ q ≤ 65535 := by simpa [Lit.wf, IntKind.min, IntKind.max, IntKind.signed, IntKind.bits] using w0
  refine ⟨q.toNat, UInt8.ofNat n.toNat, ?_, by omega⟩
  rw [← u8_of w1, show ((q.toNat : Nat) : Int) = q by omega]
  refine cells_struct Try.underlying44 hv ?_
  match hvl : v.cells.toList, h1 with
  | [c0, c1], _ =>
    rw [hvl] at e0 e1
    simp at e0 e1
    rw [e0, e1]
end
end Go.Proofs.Ytcbgablnbgpjdaa
