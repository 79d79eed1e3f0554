/-
  No statement is proved here: a list of blocks that are known whole, kept from world to world.
-/
import Derived.Test.YtkgheilaleekdaaMem2
namespace Go.Proofs.Ytkgheilaleekdaa
open Go.RowKit

/-- W is a later world of the call that began in w; the blocks of L are as L says. -/
def Keeps (w : World) (L : List (Nat × TypeId × List Value)) (W : World) : Prop := Below w.heap.size w W ∧ ∀ e ∈ L, Bk W e.1 e.2.1 e.2.2

section
variable {w W W' : World} {L : List (Nat × TypeId × List Value)}
theorem Keeps.start (w : World) : Keeps w [] w := ⟨Below.refl _ _, fun e h => by cases h⟩
theorem Keeps.step (h : Keeps w L W) (hb : Below W.heap.size W W') : Keeps w L W' := ⟨h.1.trans (hb.mono h.1.size), fun e he => (h.2 e he).below hb (h.2 e he).lt⟩
theorem Keeps.drew (h : Keeps w L W) : Keeps w L W.drew := ⟨h.1.drew, h.2⟩
theorem Keeps.drewN (h : Keeps w L W) (n : Nat) : Keeps w L (W.drewN n) := ⟨⟨h.1.os, h.1.tape, h.1.output, h.1.size, h.1.block⟩, h.2⟩
theorem Keeps.alloc (h : Keeps w L W) (o : Obj) : Keeps w L (W.alloc o) := ⟨h.1.alloc h.1.size o, fun e he => (h.2 e he).alloc o⟩
theorem Keeps.add (h : Keeps w L W) (t : TypeId) (l : List Value) {n : Nat} (hn : n = W.heap.size) : Keeps w ((n, t, l) :: L) (W.alloc (.cells l.toArray t (0, 0))) :=
  ⟨h.1.alloc h.1.size _, fun e he => by
    rcases List.mem_cons.1 he with rfl | he
    · exact Bk.newAt W t l hn
    · exact (h.2 e he).alloc _⟩
theorem Keeps.more (h : Keeps w L W) {g : Nat} {t : TypeId} {l : List Value} (hb : Bk W g t l) : Keeps w ((g, t, l) :: L) W :=
  ⟨h.1, fun e he => by
    rcases List.mem_cons.1 he with rfl | he
    · exact hb
    · exact h.2 e he⟩
theorem Keeps.less {L' : List (Nat × TypeId × List Value)} (h : Keeps w L W) (hL : ∀ e ∈ L', e ∈ L) : Keeps w L' W := ⟨h.1, fun e he => h.2 e (hL e he)⟩
theorem Keeps.set (h : Keeps w L W) {p : Addr} (hp : w.heap.size ≤ p.block) (hL : ∀ e ∈ L, e.1 ≠ p.block) (u : Value) : Keeps w L (W.setCell p u) :=
  ⟨h.1.setCell hp u, fun e he => (h.2 e he).far (hL e he) u⟩
theorem Keeps.grown (h : Keeps w L W) {g : Nat} (hg : W.grownBy W' (some g)) (hw : w.heap.size ≤ g) (hL : ∀ e ∈ L, e.1 ≠ g) : Keeps w L W' :=
  ⟨h.1.trans (below_of_grown hg hw h.1.size), fun e he => (h.2 e he).grown hg (fun e' => hL e he (by injection e' with e'; exact e'.symm))⟩
theorem Keeps.bk (h : Keeps w L W) {e : Nat × TypeId × List Value} (he : e ∈ L) : Bk W e.1 e.2.1 e.2.2 := h.2 e he
end

/-- All old cells and marks read as before: two rules for the walk. -/
theorem bcell {W w1 : World} (hb : Below W.heap.size W w1) : (∀ b o, b < W.heap.size → w1.cell? ⟨b, o, none⟩ = W.cell? ⟨b, o, none⟩) ∧ (∀ b o, b < W.heap.size → w1.frozen? ⟨b, o, none⟩ = W.frozen? ⟨b, o, none⟩) :=
  ⟨fun b o h => hb.cell (p := ⟨b, o, none⟩) h, fun b o h => hb.frozen (p := ⟨b, o, none⟩) h⟩
end Go.Proofs.Ytkgheilaleekdaa
