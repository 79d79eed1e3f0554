/-
  The arguments of the laws laid open.
-/
import Derived.Test.YtehniblcodkmaaaOpenM
import Derived.Test.YtehniblcodkmaaaIm
namespace Go.Proofs.Ytehniblcodkmaaa
open Go.RowKit Go.ChangeShapes Go.WideShapes

def B64 (n : Int) : Prop := -9223372036854775808 ≤ n ∧ n ≤ 9223372036854775807
def BLn (l : Iq.Ln) : Prop := B64 l.1 ∧ B64 l.2.1 ∧ B64 l.2.2.1
def IsI64 (_ : World) (v : Value) : Prop := ∃ n : Int, v = .int .i64 n ∧ B64 n
def IsU8 (_ : World) (v : Value) : Prop := ∃ n : UInt8, v = eb n
def IsBool (_ : World) (v : Value) : Prop := ∃ b : Bool, v = .bool b
def IsLine (w : World) (v : Value) : Prop := ∃ l, Lv w v l ∧ BLn l
def IsState (w : World) (v : Value) : Prop := ∃ m0 m1 m2 m3 m4 u ls, v = .agg #[.bool m0, .bool m1, .bool m2, .bool m3, .bool m4, u] ∧ Lp w u ls ∧ ∀ l ∈ ls, BLn l

section
variable {w : World} {r : Reach} {b : Nat} {v : Value}

theorem open_i64 (hv : Value.okWide Try.prog w r b 3 v) (h : Arg w 3 v.cells.toList) : IsI64 w v := by
  obtain ⟨n, e, hw⟩ := h.int Try.underlying3
  exact ⟨n, cells_int Try.underlying3 hv e, wf_i64 hw⟩

theorem open_bool (hv : Value.okWide Try.prog w r b 4 v) (h : Arg w 4 v.cells.toList) : IsBool w v := by
  obtain ⟨n, e⟩ := h.bool Try.underlying4
  exact ⟨n, cells_bool Try.underlying4 hv e⟩

theorem open_u8 (hv : Value.okWide Try.prog w r b 5 v) (h : Arg w 5 v.cells.toList) : IsU8 w v := by
  obtain ⟨n, e, hw⟩ := h.int Try.underlying5
  obtain ⟨h0, h1⟩ := wf_u8 hw
  refine ⟨UInt8.ofNat n.toNat, ?_⟩
  rw [cells_int Try.underlying5 hv e]
  unfold eb
  rw [UInt8.toNat_ofNat', Nat.mod_eq_of_lt (by omega)]
  congr 1
  omega

theorem line_cells {cs : List Value} (h : Arg w 37 cs) : ∃ (d t n : Int) (u : Value) (xs : List UInt8), cs = [.int .i64 d, .int .i64 t, .int .i64 n, u] ∧ Sl eb w u xs ∧ B64 d ∧ B64 t ∧ B64 n := by
  obtain ⟨h1, h2⟩ := h.struct Try.underlying37
  have hc : Try.prog.cellsOf 37 = 4 := by kernel_rfl
  have hs : Try.prog.cellsOf 3 = 1 := by kernel_rfl
  have hb : Try.prog.cellsOf 35 = 1 := by kernel_rfl
  have g0 : Arg w 3 ((cs.drop 0).take (Try.prog.cellsOf 3)) := h2 0 _ rfl
  have g1 : Arg w 3 ((cs.drop 1).take (Try.prog.cellsOf 3)) := h2 1 _ rfl
  have g2 : Arg w 3 ((cs.drop 2).take (Try.prog.cellsOf 3)) := h2 2 _ rfl
  have g3 : Arg w 35 ((cs.drop 3).take (Try.prog.cellsOf 35)) := h2 3 _ rfl
  rw [hs] at g0 g1 g2
  rw [hb] at g3
  rw [hc] at h1
  obtain ⟨d, e0, w0⟩ := g0.int Try.underlying3
  obtain ⟨t, e1, w1⟩ := g1.int Try.underlying3
  obtain ⟨n, e2, w2⟩ := g2.int Try.underlying3
  obtain ⟨u, xs, e3, hsl⟩ := g3.bytes Try.underlying35 Try.underlying5 (by kernel_rfl)
  refine ⟨d, t, n, u, xs, ?_, hsl, wf_i64 w0, wf_i64 w1, wf_i64 w2⟩
  match cs, h1 with
  | [c0, c1, c2, c3], _ =>
    simp at e0 e1 e2 e3
    rw [e0, e1, e2, e3]

theorem open_line (hv : Value.okWide Try.prog w r b 37 v) (h : Arg w 37 v.cells.toList) : IsLine w v := by
  obtain ⟨d, t, n, u, xs, e, hsl, b0, b1, b2⟩ := line_cells h
  exact ⟨(d, t, n, xs), ⟨u, cells_struct Try.underlying37 hv e, hsl⟩, b0, b1, b2⟩

theorem open_state (hv : Value.okWide Try.prog w r b 25 v) (h : Arg w 25 v.cells.toList) : IsState w v := by
  obtain ⟨h1, h2⟩ := h.struct Try.underlying25
  have hc : Try.prog.cellsOf 25 = 6 := by kernel_rfl
  have hm : Try.prog.cellsOf 22 = 5 := by kernel_rfl
  have hb : Try.prog.cellsOf 4 = 1 := by kernel_rfl
  have hp : Try.prog.cellsOf 23 = 1 := by kernel_rfl
  have g0 : Arg w 22 ((v.cells.toList.drop 0).take (Try.prog.cellsOf 22)) := h2 0 _ rfl
  have g1 : Arg w 23 ((v.cells.toList.drop 5).take (Try.prog.cellsOf 23)) := h2 1 _ rfl
  rw [hm] at g0
  rw [hp] at g1
  rw [hc] at h1
  obtain ⟨-, ga⟩ := g0.array Try.underlying22
  rw [hb] at ga
  obtain ⟨m0, e0⟩ := (ga 0 (by omega)).bool Try.underlying4
  obtain ⟨m1, e1⟩ := (ga 1 (by omega)).bool Try.underlying4
  obtain ⟨m2, e2⟩ := (ga 2 (by omega)).bool Try.underlying4
  obtain ⟨m3, e3⟩ := (ga 3 (by omega)).bool Try.underlying4
  obtain ⟨m4, e4⟩ := (ga 4 (by omega)).bool Try.underlying4
  obtain ⟨u, es, e5, hs, hR⟩ := g1.multi (s := 4) (enc := el) (R := fun e => ∃ l, LnR w e l ∧ BLn l) Try.underlying23 (by kernel_rfl) (by omega) (fun cs h' => by
    obtain ⟨d, t, n, u, xs, rfl, hsl, b0, b1, b2⟩ := line_cells h'
    obtain ⟨a, c, rfl, -⟩ := id hsl
    exact ⟨(d, t, n, a, xs.length, c), rfl, (d, t, n, xs), ⟨rfl, rfl, rfl, hsl⟩, b0, b1, b2⟩)
  have hls : ∃ ls : List Iq.Ln, LsR w es ls ∧ ∀ l ∈ ls, BLn l := by
    clear hs e5
    induction es with
    | nil => exact ⟨[], ⟨rfl, fun i h => absurd h (by simp)⟩, by simp⟩
    | cons e es ih =>
      obtain ⟨ls, hl, hB⟩ := ih (fun x hx => hR x (List.mem_cons_of_mem _ hx))
      obtain ⟨l, h1, h2⟩ := hR e (by simp)
      refine ⟨l :: ls, ⟨by simp [hl.1], fun i hi hi' => ?_⟩, fun y hy => ?_⟩
      · cases i with
        | zero => exact h1
        | succ i => exact hl.2 i (by simpa using hi) (by simpa using hi')
      · rcases List.mem_cons.1 hy with rfl | hy
        · exact h2
        · exact hB y hy
  obtain ⟨ls, hl, hB⟩ := hls
  refine ⟨m0, m1, m2, m3, m4, u, ls, ?_, ⟨es, hs, hl⟩, hB⟩
  refine cells_struct Try.underlying25 hv ?_
  match hvl : v.cells.toList, h1 with
  | [c0, c1, c2, c3, c4, c5], _ =>
    rw [hvl] at e0 e1 e2 e3 e4 e5
    simp at e0 e1 e2 e3 e4 e5
    rw [e0, e1, e2, e3, e4, e5]
end
end Go.Proofs.Ytehniblcodkmaaa
