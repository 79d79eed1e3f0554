/-
  No statement is proved here: loads and stores of parts of a block that is known whole (taken from t37/XNa).
-/
import Derived.Test.YteeoonoccklhmaaClr
import Derived.Deep.DeepCutAuto
import Derived.Laws.ResultCell
namespace Go.Proofs.Yteeoonoccklhmaa
open Go.RowKit
set_option maxRecDepth 100000

section
variable {P : Program} {w : World} {g : Nat} {T ty : TypeId} {l : List Value}
theorem Bk.range (h : Bk w g T l) : w.rangeAt g 0 l := fun j v hv => by rw [Nat.zero_add, h.cell]; exact hv
theorem Bk.part (h : Bk w g T l) (o n : Nat) : w.rangeAt g o ((l.drop o).take n) := fun j v hv => by
  rw [h.cell, ← List.getElem?_drop]
  rw [List.getElem?_take] at hv
  split at hv
  · exact hv
  · cases hv
theorem Bk.there (h : Bk w g T l) (o n : Nat) (hn : o + n ≤ l.length) : w.there g o n := fun j hj => by
  refine ⟨?_, h.frozen _⟩
  rw [h.cell, List.getElem?_eq_getElem (by omega)]
  rfl
end

section
variable {P : Program} {w : World} {ops : Array Oper} {rest : List Oper} {o : Oper} {a : Act} {Q : Exit → Act → World → Prop}
/-- Cells out of the midst of a block. -/
theorem wpList_load_part (hgd : o.guard = none) (ty : TypeId) (x : Operand) (ho : o.op = .load ty x) (g k n : Nat) (hx : a.eval x = .pointer (some ⟨g, k, none⟩)) (T : TypeId) (l : List Value) (hb : Bk w g T l) (hk : k + n ≤ l.length)
    (d : TypeDesc) (hu : P.underlying ty = some d) (hd : d.isRow = true) (hi : (P.info? ty).map (·.size) = some n)
    (h : wpList P ops Q rest (a.put o.dst (.agg ((l.drop k).take n).toArray)) w) : wpList P ops Q (o :: rest) a w :=
  wpList_load_mid hgd ty x ho g k hx ((l.drop k).take n) d (hb.part k n) hu hd (by rw [List.length_take, List.length_drop, Nat.min_eq_left (by omega)]; exact hi) h
/-- Cells into the midst of a block. -/
theorem wpList_store_part (hgd : o.guard = none) (ty : TypeId) (x y : Operand) (ho : o.op = .store ty x y) (g k n : Nat) (cs : List Value) (hx : a.eval x = .pointer (some ⟨g, k, none⟩)) (hy : a.eval y = .agg cs.toArray) (T : TypeId) (l : List Value) (hb : Bk w g T l) (hn : cs.length = n) (hk : k + n ≤ l.length)
    (hi : (P.info? ty).map (·.size) = some n) (h1 : ∀ u ∈ cs, u.oneCell' = true)
    (h : ∀ w', Bk w' g T (splice l k cs) → w.grownBy w' (some g) → wpList P ops Q rest (a.put o.dst undef) w') : wpList P ops Q (o :: rest) a w := by
  refine wpList_store_mid hgd ty x y ho g k cs.toArray hx hy (by simpa [hn] using hb.there k n hk) (by simpa [hn] using hi) (all_oneCell_toArray h1) ?_
  have := hb.setCells cs k w l (by omega)
  exact h _ this.1 this.2
end
theorem splice_all {α : Type} (l cs : List α) (h : cs.length = l.length) : splice l 0 cs = cs := by simp [splice, h]
end Go.Proofs.Yteeoonoccklhmaa
