/-
  No statement is proved here: facts about a world that do not hang on the blocks of a set X (so they stay when those blocks are written).
-/
import Derived.Test.YteeoonoccklhmaaMem2
import Derived.Test.YteeoonoccklhmaaStep
namespace Go.Proofs.Yteeoonoccklhmaa
open Go.RowKit
set_option maxRecDepth 100000

/-- P holds in every world that has the blocks of W, but for those of X. -/
def Av (X : Nat → Prop) (P : World → Prop) (W : World) : Prop := ∀ W' : World, (∀ b, b < W.heap.size → ¬ X b → W'.heap[b]? = W.heap[b]?) → P W'

/-- The blocks of a list, and the row that v owns. -/
def Bx (L : List Nat) (v : Value) (b : Nat) : Prop := b ∈ L ∨ v.ownBlock = some b

section
variable {X Y : Nat → Prop} {P Q : World → Prop} {W W' : World} {L : List Nat} {v v' : Value}
theorem Av.here (h : Av X P W) : P W := h W fun _ _ _ => rfl
theorem Av.mono (h : Av X P W) (k : ∀ W, P W → Q W) : Av X Q W := fun W' hW => k W' (h W' hW)
theorem Av.and (h : Av X P W) (k : Av X Q W) : Av X (fun W => P W ∧ Q W) W := fun W' hW => ⟨h W' hW, k W' hW⟩
theorem Av.less (h : Av X P W) (k : ∀ b, b < W.heap.size → Y b → X b) : Av Y P W := fun W' hW => h W' fun b hb hx => hW b hb fun hy => hx (k b hb hy)
/-- The world turns, but only in blocks of X and new ones. -/
theorem Av.keep (h : Av X P W) (hs : W.heap.size ≤ W'.heap.size) (hk : ∀ b, b < W.heap.size → ¬ X b → W'.heap[b]? = W.heap[b]?) : Av X P W' := fun W2 hW => h W2 fun b hb hx => (hW b (by omega) hx).trans (hk b hb hx)
theorem Av.below (h : Av X P W) (hb : Below W.heap.size W W') : Av X P W' := h.keep hb.size fun b hb' _ => hb.block b hb'
theorem Av.alloc (h : Av X P W) (o : Obj) : Av X P (W.alloc o) := h.below (low_alloc W o)
theorem Av.drew (h : Av X P W) : Av X P W.drew := h
theorem Av.set (h : Av X P W) {p : Addr} (hp : X p.block) (u : Value) : Av X P (W.setCell p u) := h.keep (by simp [World.setCell]) fun b _ hx => Below.heap_setCell _ _ _ _ (fun e => hx (e ▸ hp))
/-- Blocks that were not there yet may be set apart too. -/
theorem Av.more (h : Av X P W) (k : ∀ b, Y b → X b ∨ W.heap.size ≤ b) : Av Y P W := fun W' hW => h W' fun b hb hx => hW b hb fun hy => (k b hy).elim hx (by omega)
theorem Av.pure {p : Prop} (h : p) : Av X (fun _ => p) W := fun _ _ => h

/-- An append to the row that v owns. -/
theorem Av.spare (h : Av (Bx L v) P W) (hsz : W.heap.size ≤ W'.heap.size) (hs : Spares W W' v v') : Av (Bx L v') P W' := fun W2 hW => h W2 fun b hb hx =>
  have h1 := hs b hb (fun e => hx (.inr e))
  (hW b (by omega) (fun hy => hy.elim (fun hl => hx (.inl hl)) h1.2)).trans h1.1

theorem Av.listSet (h : Av (Bx L v) P W) {g i : Nat} (hg : g ∈ L) (u : Value) : Av (Bx L v) P (W.setCell ⟨g, i, none⟩ u) := h.set (p := ⟨g, i, none⟩) (.inl hg) u
end

theorem Sl.av {α : Type} {enc : α → Value} {W : World} {v : Value} {xs : List α} {B : Nat} {X : Nat → Prop} (h : Sl enc W v xs) (_hX : B = W.heap.size) (hx : ∀ b, X b → W.heap.size ≤ b) : Av X (fun W => Sl enc W v xs) W := fun W' hW => h.keep fun b hb => hW b hb fun hy => by have := hx b hy; omega

theorem Pg.keep {w w' : World} {v : Value} {ps : List (List UInt8)} (h : Pg w v ps) (hk : ∀ b, b < w.heap.size → w'.heap[b]? = w.heap[b]?) : Pg w' v ps := by
  obtain ⟨vs, h1, h2, h3⟩ := h
  exact ⟨vs, h1.keep hk, h2, fun i hi hi' => (h3 i hi hi').keep hk⟩

/-- A fact that only needs the blocks that are there does not hang on blocks that are not there yet. -/
theorem Av.start {P : World → Prop} {W : World} {X : Nat → Prop} (hP : ∀ W' : World, (∀ b, b < W.heap.size → W'.heap[b]? = W.heap[b]?) → P W') (hx : ∀ b, X b → W.heap.size ≤ b) : Av X P W := fun W' hW => hP W' fun b hb => hW b hb fun hy => by have := hx b hy; omega
end Go.Proofs.Yteeoonoccklhmaa
