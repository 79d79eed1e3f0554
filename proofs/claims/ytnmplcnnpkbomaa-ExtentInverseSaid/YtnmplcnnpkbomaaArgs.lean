/-
  The arguments of ExtentInverse laid open.
-/
import Derived.Test.YtnmplcnnpkbomaaOpenM
import Derived.Test.YtnmplcnnpkbomaaRuns
namespace Go.Proofs.Ytnmplcnnpkbomaa
open Go.RowKit Go.ChangeShapes Go.WideShapes

def B64 (n : Int) : Prop := -9223372036854775808 ≤ n ∧ n ≤ 9223372036854775807
def IsInts (w : World) (v : Value) : Prop := ∃ l : List Int, Sl (Value.int .i64) w v l ∧ ∀ n ∈ l, B64 n
def IsRuns (w : World) (v : Value) : Prop := ∃ rs : List (Int × Int), Sm 2 er w v rs ∧ ∀ r ∈ rs, B64 r.1 ∧ B64 r.2

section
variable {w : World} {r : Reach} {b : Nat} {v : Value}

theorem run_cells {cs : List Value} (h : Arg w 54 cs) : ∃ x : Int × Int, cs = er x ∧ B64 x.1 ∧ B64 x.2 := by
  obtain ⟨h1, h2⟩ := h.struct Try.underlying54
  have hc : Try.prog.cellsOf 54 = 2 := by kernel_rfl
  have hs : Try.prog.cellsOf 3 = 1 := by kernel_rfl
  have g0 : Arg w 3 ((cs.drop 0).take (Try.prog.cellsOf 3)) := h2 0 _ rfl
  have g1 : Arg w 3 ((cs.drop 1).take (Try.prog.cellsOf 3)) := h2 1 _ rfl
  rw [hs] at g0 g1
  rw [hc] at h1
  obtain ⟨f, e0, w0⟩ := g0.int Try.underlying3
  obtain ⟨x, e1, w1⟩ := g1.int Try.underlying3
  refine ⟨(f, x), ?_, wf_i64 w0, wf_i64 w1⟩
  match cs, h1 with
  | [c0, c1], _ =>
    simp at e0 e1
    rw [e0, e1]
    rfl

theorem open_runs (hv : Value.okWide Try.prog w r b 46 v) (h : Arg w 46 v.cells.toList) : IsRuns w v := by
  obtain ⟨u, xs, e, hs, hR⟩ := h.multi (enc := er) (R := fun x => B64 x.1 ∧ B64 x.2) Try.underlying46 (by kernel_rfl) (by omega : 0 < 2) (fun _ h' => run_cells h')
  rw [cells_slice Try.underlying46 hv e]
  exact ⟨xs, hs, hR⟩

theorem open_ints (hv : Value.okWide Try.prog w r b 32 v) (h : Arg w 32 v.cells.toList) : IsInts w v := by
  obtain ⟨H, enc, fuel, x, h⟩ := h
  have hc : Try.prog.cellsOf 3 = 1 := by kernel_rfl
  have key : ∃ u l, v.cells.toList = [u] ∧ Sl (Value.int .i64) w u l ∧ ∀ n ∈ l, B64 n := by
    rcases Go.ChangeShapes.open_ints Try.underlying32 Try.underlying3 hc h with ⟨hcs, _⟩ | ⟨x, l, c, zs, hcs, _, hl, hm, hz, _, hcell, hwz⟩
    · exact ⟨_, [], hcs, Sl.nil _ _, by simp⟩
    · have hz' : zs.length = c := by simpa using hz
      obtain ⟨xs, h1, h2, h3⟩ := Sl.ofCells (k := .i64) (w := w) (a := some x) (len := l) (cap := c) (zs := zs) (.inr ⟨x, rfl, hl, hm, hz', hcell, hwz⟩)
      exact ⟨_, xs, hcs, h1, fun n hn => wf_i64 (h3 n hn)⟩
  obtain ⟨u, l, e, hs, hR⟩ := key
  rw [cells_slice Try.underlying32 hv e]
  exact ⟨l, hs, hR⟩
end
end Go.Proofs.Ytnmplcnnpkbomaa
