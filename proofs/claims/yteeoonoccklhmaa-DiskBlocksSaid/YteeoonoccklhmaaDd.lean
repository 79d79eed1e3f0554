/-
  The walk of copied; a disk whose parts are laid out by name.
-/
import Derived.Test.YteeoonoccklhmaaDc
namespace Go.Proofs.Yteeoonoccklhmaa
open Go.RowKit

theorem set10_heap {W : World} {b k : Nat} (hk : k ≠ b) (v0 v1 v2 v3 v4 v5 v6 v7 v8 v9 : Value) : (((((((((((W.setCell ⟨b, 0, none⟩ v0).setCell ⟨b, 1, none⟩ v1).setCell ⟨b, 2, none⟩ v2).setCell ⟨b, 3, none⟩ v3).setCell ⟨b, 4, none⟩ v4).setCell ⟨b, 5, none⟩ v5).setCell ⟨b, 6, none⟩ v6).setCell ⟨b, 7, none⟩ v7).setCell ⟨b, 8, none⟩ v8).setCell ⟨b, 9, none⟩ v9)).heap[k]? = W.heap[k]? := by
  rw [Below.heap_setCell _ _ _ _ hk, Below.heap_setCell _ _ _ _ hk, Below.heap_setCell _ _ _ _ hk, Below.heap_setCell _ _ _ _ hk, Below.heap_setCell _ _ _ _ hk, Below.heap_setCell _ _ _ _ hk, Below.heap_setCell _ _ _ _ hk, Below.heap_setCell _ _ _ _ hk, Below.heap_setCell _ _ _ _ hk, Below.heap_setCell _ _ _ _ hk]
theorem set10 {w W : World} {b : Nat} (h : Below w.heap.size w W) (hb : w.heap.size ≤ b) (v0 v1 v2 v3 v4 v5 v6 v7 v8 v9 : Value) : Below w.heap.size w ((((((((((W.setCell ⟨b, 0, none⟩ v0).setCell ⟨b, 1, none⟩ v1).setCell ⟨b, 2, none⟩ v2).setCell ⟨b, 3, none⟩ v3).setCell ⟨b, 4, none⟩ v4).setCell ⟨b, 5, none⟩ v5).setCell ⟨b, 6, none⟩ v6).setCell ⟨b, 7, none⟩ v7).setCell ⟨b, 8, none⟩ v8).setCell ⟨b, 9, none⟩ v9) :=
  (((((((((h.setCell hb _).setCell hb _).setCell hb _).setCell hb _).setCell hb _).setCell hb _).setCell hb _).setCell hb _).setCell hb _).setCell hb _
theorem set10_size {W : World} {b : Nat} (v0 v1 v2 v3 v4 v5 v6 v7 v8 v9 : Value) : (((((((((((W.setCell ⟨b, 0, none⟩ v0).setCell ⟨b, 1, none⟩ v1).setCell ⟨b, 2, none⟩ v2).setCell ⟨b, 3, none⟩ v3).setCell ⟨b, 4, none⟩ v4).setCell ⟨b, 5, none⟩ v5).setCell ⟨b, 6, none⟩ v6).setCell ⟨b, 7, none⟩ v7).setCell ⟨b, 8, none⟩ v8).setCell ⟨b, 9, none⟩ v9)).heap.size = W.heap.size := by simp [World.setCell]
theorem Bk.set10 {W : World} {b : Nat} {T : TypeId} {x0 x1 x2 x3 x4 x5 x6 x7 x8 x9 : Value} (h : Bk W b T [x0, x1, x2, x3, x4, x5, x6, x7, x8, x9]) (v0 v1 v2 v3 v4 v5 v6 v7 v8 v9 : Value) : Bk ((((((((((W.setCell ⟨b, 0, none⟩ v0).setCell ⟨b, 1, none⟩ v1).setCell ⟨b, 2, none⟩ v2).setCell ⟨b, 3, none⟩ v3).setCell ⟨b, 4, none⟩ v4).setCell ⟨b, 5, none⟩ v5).setCell ⟨b, 6, none⟩ v6).setCell ⟨b, 7, none⟩ v7).setCell ⟨b, 8, none⟩ v8).setCell ⟨b, 9, none⟩ v9) b T [v0, v1, v2, v3, v4, v5, v6, v7, v8, v9] :=
  (((((((((h.set 0 v0).set 1 v1).set 2 v2).set 3 v3).set 4 v4).set 5 v5).set 6 v6).set 7 v7).set 8 v8).set 9 v9

/-- The parts of a disk, the blocks' slices by name. -/
structure De (W : World) (ub uc ul : Value) (es : List Tr) (bs : List (List UInt8)) (cd ld : List UInt8) : Prop where
  r : Sl et W ub es
  n : es.length = bs.length
  e : ∀ i (h : i < es.length) (h' : i < bs.length), Sl eb W (et es[i]) bs[i]
  c : Sl eb W uc cd
  l : Sl eb W ul ld

section
variable {W W' : World} {ub uc ul : Value} {es : List Tr} {bs : List (List UInt8)} {cd ld : List UInt8} {X Y : Nat → Prop} {B : Nat}
theorem De.dr (h : De W ub uc ul es bs cd ld) : Dr W ub uc ul bs cd ld := by
  refine ⟨⟨es.map et, ?_, by simpa using h.n, fun i hi hi' => by simpa using h.e i (by simpa using hi) hi'⟩, h.c, h.l⟩
  obtain ⟨a, cap, q1, q2, q3, q4, q5⟩ := h.r
  refine ⟨a, cap, by simpa using q1, by simpa using q2, q3, q4, fun i hi => ?_⟩
  obtain ⟨b, off, e1, e2, e3⟩ := q5 i (by simpa using hi)
  exact ⟨b, off, e1, e2, by simpa using e3⟩
theorem Dr.de (h : Dr W ub uc ul bs cd ld) : ∃ es, De W ub uc ul es bs cd ld := by
  obtain ⟨es, h1, h2, h3⟩ := h.b.tr
  exact ⟨es, h1, h2, h3, h.c, h.l⟩
theorem De.keep (h : De W ub uc ul es bs cd ld) (hk : ∀ b, b < W.heap.size → W'.heap[b]? = W.heap[b]?) : De W' ub uc ul es bs cd ld := ⟨h.r.keep hk, h.n, fun i h1 h2 => (h.e i h1 h2).keep hk, h.c.keep hk, h.l.keep hk⟩
theorem De.below (h : De W ub uc ul es bs cd ld) (hb : Below B W W') (hB : W.heap.size ≤ B) : De W' ub uc ul es bs cd ld := ⟨h.r.below hb hB, h.n, fun i h1 h2 => (h.e i h1 h2).below hb hB, h.c.below hb hB, h.l.below hb hB⟩
/-- The parts, and that none of them hangs on the blocks of X. -/
def Dv (X : Nat → Prop) (W : World) (ub uc ul : Value) (es : List Tr) (bs : List (List UInt8)) (cd ld : List UInt8) : Prop := Av X (fun W => De W ub uc ul es bs cd ld) W
theorem Dv.here (h : Dv X W ub uc ul es bs cd ld) : De W ub uc ul es bs cd ld := Av.here h
theorem Dv.below (h : Dv X W ub uc ul es bs cd ld) (hb : Below W.heap.size W W') : Dv X W' ub uc ul es bs cd ld := Av.below h hb
theorem Dv.start (h : De W ub uc ul es bs cd ld) (hX : ∀ b, X b → W.heap.size ≤ b) : Dv X W ub uc ul es bs cd ld := Av.start (fun _ hk => h.keep hk) hX
theorem Dv.keep (h : Dv X W ub uc ul es bs cd ld) (hs : W.heap.size ≤ W'.heap.size) (hk : ∀ b, b < W.heap.size → ¬ X b → W'.heap[b]? = W.heap[b]?) : Dv X W' ub uc ul es bs cd ld := Av.keep h hs hk
theorem Dv.less (h : Dv X W ub uc ul es bs cd ld) (k : ∀ b, b < W.heap.size → Y b → X b) : Dv Y W ub uc ul es bs cd ld := Av.less h k
theorem Dv.more (h : Dv X W ub uc ul es bs cd ld) (k : ∀ b, Y b → X b ∨ W.heap.size ≤ b) : Dv Y W ub uc ul es bs cd ld := Av.more h k
theorem Dv.set10 (h : Dv X W ub uc ul es bs cd ld) {b : Nat} (hb : X b) (v0 v1 v2 v3 v4 v5 v6 v7 v8 v9 : Value) : Dv X ((((((((((W.setCell ⟨b, 0, none⟩ v0).setCell ⟨b, 1, none⟩ v1).setCell ⟨b, 2, none⟩ v2).setCell ⟨b, 3, none⟩ v3).setCell ⟨b, 4, none⟩ v4).setCell ⟨b, 5, none⟩ v5).setCell ⟨b, 6, none⟩ v6).setCell ⟨b, 7, none⟩ v7).setCell ⟨b, 8, none⟩ v8).setCell ⟨b, 9, none⟩ v9) ub uc ul es bs cd ld :=
  h.keep (by rw [set10_size]; exact Nat.le_refl _) fun k _ hx => set10_heap (fun e => hx (by subst e; exact hb)) v0 v1 v2 v3 v4 v5 v6 v7 v8 v9
theorem Dv.nil : Dv X W (.slice none 0 0) (.slice none 0 0) (.slice none 0 0) [] [] [] [] := fun _ _ => ⟨Sl.nil _ _, rfl, fun i h => absurd h (by simp), Sl.nil _ _, Sl.nil _ _⟩

theorem own_av {α : Type} {enc : α → Value} {T : TypeId} {v : Value} {xs : List α} (h : W.ownsRow B T 1 v xs.length (xs.map enc)) (hX : ∀ b, X b → b < B) : Av X (fun W => Sl enc W v xs) W := fun W' hW =>
  Sl.ofOwn (e := T) (base := B) (own_keep h fun k hk => hW k (h.lt k hk).2 fun hx => by have := hX k hx; have := (h.lt k hk).1; omega)

/-- A disk whose rows are the call's own; only the blocks' bytes may be others'. -/
structure Dw (B : Nat) (X : Nat → Prop) (W : World) (ub uc ul : Value) (es : List Tr) (bs : List (List UInt8)) (cd ld : List UInt8) : Prop where
  r : W.ownsRow B 23 1 ub es.length (es.map et)
  n : es.length = bs.length
  e : Av X (fun W => ∀ i (h : i < es.length) (h' : i < bs.length), Sl eb W (et es[i]) bs[i]) W
  c : W.ownsRow B 5 1 uc cd.length (cd.map eb)
  l : W.ownsRow B 5 1 ul ld.length (ld.map eb)
theorem Dw.dv (h : Dw B X W ub uc ul es bs cd ld) (hX : ∀ b, X b → b < B) : Dv X W ub uc ul es bs cd ld := fun W' hW =>
  ⟨own_av h.r hX W' hW, h.n, h.e W' hW, own_av h.c hX W' hW, own_av h.l hX W' hW⟩
theorem own_down {base base' n : Nat} {e : TypeId} {v : Value} {l : List Value} (h : W.ownsRow base e 1 v n l) (hb : base' ≤ base) : W.ownsRow base' e 1 v n l :=
  ⟨h.1, h.2.elim .inl fun ⟨g, cp, cur, q1, q2, q3⟩ => .inr ⟨g, cp, cur, q1, Nat.le_trans hb q2, q3⟩⟩
theorem Dw.down {B' : Nat} (h : Dw B X W ub uc ul es bs cd ld) (hB : B' ≤ B) : Dw B' X W ub uc ul es bs cd ld := ⟨own_down h.r hB, h.n, h.e, own_down h.c hB, own_down h.l hB⟩
theorem Dw.keep (h : Dw B X W ub uc ul es bs cd ld) (hs : W.heap.size ≤ W'.heap.size) (hk : ∀ b, b < W.heap.size → ¬ X b → W'.heap[b]? = W.heap[b]?) (hX : ∀ b, X b → b < B) : Dw B X W' ub uc ul es bs cd ld :=
  ⟨own_keep h.r fun k hk' => hk k (h.r.lt k hk').2 fun hx => by have := hX k hx; have := (h.r.lt k hk').1; omega, h.n, Av.keep h.e hs hk,
   own_keep h.c fun k hk' => hk k (h.c.lt k hk').2 fun hx => by have := hX k hx; have := (h.c.lt k hk').1; omega,
   own_keep h.l fun k hk' => hk k (h.l.lt k hk').2 fun hx => by have := hX k hx; have := (h.l.lt k hk').1; omega⟩
end
end Go.Proofs.Yteeoonoccklhmaa
