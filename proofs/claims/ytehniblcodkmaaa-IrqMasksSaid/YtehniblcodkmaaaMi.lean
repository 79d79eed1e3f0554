/-
  No statement is proved here: what the rounds of IrqMasks keep.
-/
import Derived.Test.YtehniblcodkmaaaLorder
import Derived.Test.YtehniblcodkmaaaPlain3
namespace Go.Proofs.Ytehniblcodkmaaa
open Go.RowKit

/-- The boxes of s, of t, and of the parts. -/
structure PW (w : World) (b6 b8 : Nat) (k0 k1 k2 k3 k4 : Bool) (us va : Value) (cs : List Value) (W : World) : Prop where
  s : Bk W w.heap.size 25 (stC false false false false false us)
  a : Bk W b6 30 (stC k0 k1 k2 k3 k4 va)
  p : Bk W b8 48 cs
  low : Below w.heap.size w W
  l6 : w.heap.size < b6
  l8 : b6 < b8

section
variable {w : World} {b6 b8 : Nat} {k0 k1 k2 k3 k4 : Bool} {us va va' : Value} {cs : List Value} {W W' : World}
theorem PW.step (h : PW w b6 b8 k0 k1 k2 k3 k4 us va cs W) (hb : Below W.heap.size W W') : PW w b6 b8 k0 k1 k2 k3 k4 us va cs W' :=
  ⟨h.s.below hb h.s.lt, h.a.below hb h.a.lt, h.p.below hb h.p.lt, stepAny h.low hb, h.l6, h.l8⟩
theorem PW.put (h : PW w b6 b8 k0 k1 k2 k3 k4 us va cs W) (n0 n1 n2 n3 n4 : Bool) (va' : Value) :
    PW w b6 b8 n0 n1 n2 n3 n4 us va' cs ((((((W.setCell ⟨b6, 0, none⟩ (.bool n0)).setCell ⟨b6, 1, none⟩ (.bool n1)).setCell ⟨b6, 2, none⟩ (.bool n2)).setCell ⟨b6, 3, none⟩ (.bool n3)).setCell ⟨b6, 4, none⟩ (.bool n4)).setCell ⟨b6, 5, none⟩ va') :=
  ⟨h.s.keep (set6_heap (by have := h.l6; omega) _ _ _ _ _ _), (((((h.a.set 0 (.bool n0)).set 1 (.bool n1)).set 2 (.bool n2)).set 3 (.bool n3)).set 4 (.bool n4)).set 5 _, h.p.keep (set6_heap (by have := h.l8; omega) _ _ _ _ _ _), set6 h.low (by have := h.l6; omega) _ _ _ _ _ _, h.l6, h.l8⟩
theorem PW.setp (h : PW w b6 b8 k0 k1 k2 k3 k4 us va cs W) (k : Nat) (u : Value) : PW w b6 b8 k0 k1 k2 k3 k4 us va (cs.set k u) (W.setCell ⟨b8, k, none⟩ u) :=
  ⟨h.s.far (p := ⟨b8, k, none⟩) (by have := h.l6; have := h.l8; simp; omega) u, h.a.far (p := ⟨b8, k, none⟩) (by have := h.l8; simp; omega) u, h.p.set k u, h.low.setCell (p := ⟨b8, k, none⟩) (by have := h.l6; have := h.l8; simp; omega) u, h.l6, h.l8⟩
/-- A change above B. -/
theorem PW.above {B : Nat} (h : PW w b6 b8 k0 k1 k2 k3 k4 us va cs W) (hb : Below B W W') (hB : b8 < B) (hw : B ≤ W.heap.size) : PW w b6 b8 k0 k1 k2 k3 k4 us va cs W' :=
  ⟨h.s.below hb (by have := h.l6; have := h.l8; omega), h.a.below hb (by have := h.l8; omega), h.p.below hb hB, h.low.trans (hb.mono (by have := h.l6; have := h.l8; omega)), h.l6, h.l8⟩
end

/-- What is read lies from C on; it stays, and does not lie in the row that v' owns. -/
theorem LpF.gen {w w' : World} {C : Nat} {va v' : Value} {l : List Iq.Ln} (h : LpF C w va l) (hs : ∀ b, C ≤ b → b < w.heap.size → w'.heap[b]? = w.heap[b]? ∧ v'.ownBlock ≠ some b) : LpA w' v' va l := by
  obtain ⟨es, ⟨a, c, rfl, h2, h3, h4, h5⟩, hr, ha, hf⟩ := h
  have hfar : ∀ i (h1 : i < es.length), ∀ b off, es[i].2.2.2.1 = some ⟨b, off, none⟩ → es[i].2.2.2.2.1 ≠ 0 → C ≤ b := fun i h1 b off e hm => by
    rcases Nat.lt_or_ge b C with hb | hb
    · exact absurd rfl (hf _ (List.getElem_mem h1) b hb b off e hm)
    · exact hb
  refine ⟨es, ⟨a, c, rfl, h2, h3, h4, fun i hi => ?_⟩, ⟨hr.1, fun i h1 h1' => ?_⟩, fun b off n c hva hn e => ?_, fun e he g hg b off ha' hm eb => ?_⟩
  · obtain ⟨b, off, e, hlt, hc⟩ := h5 i hi
    subst e
    have hb := (hs b (ha b off _ _ rfl (by omega)) hlt).1
    refine ⟨b, off, rfl, ?_, fun j hj => by rw [World.cell?_of_block (a := ⟨b, off + i * 4 + j, none⟩) hb]; exact hc j hj⟩
    rw [Array.getElem?_eq_getElem hlt] at hb
    exact (Array.getElem?_eq_some_iff.1 hb).1
  · obtain ⟨e1, e2, e3, a2, c2, q1, q2, q3, q4, q5⟩ := hr.2 i h1 h1'
    refine ⟨e1, e2, e3, a2, c2, q1, q2, q3, q4, fun j hj => ?_⟩
    obtain ⟨b, off, e, hlt, hc⟩ := q5 j hj
    injection q1 with r1 r2 r3
    have hb := (hs b (hfar i h1 b off (by rw [r1, e]) (by omega)) hlt).1
    refine ⟨b, off, e, ?_, by rw [World.cell?_of_block (a := ⟨b, off + j, none⟩) hb]; exact hc⟩
    rw [Array.getElem?_eq_getElem hlt] at hb
    exact (Array.getElem?_eq_some_iff.1 hb).1
  · injection hva with q1 q2 q3
    obtain ⟨b', off', e', hlt, _⟩ := h5 0 (by omega)
    rw [q1] at e'
    simp only [Option.some.injEq, Addr.mk.injEq, and_true] at e'
    obtain ⟨rfl, rfl⟩ := e'
    exact (hs b (ha b off n c (by rw [q1, q2, q3]) hn) hlt).2 e
  · subst eb
    obtain ⟨i, hi, rfl⟩ := List.getElem_of_mem he
    have hC := hfar i hi b off ha' hm
    obtain ⟨_, _, _, a2, c2, q1, _, _, _, q5⟩ := hr.2 i hi (by have := hr.1; omega)
    injection q1 with r1 r2 r3
    obtain ⟨b', off', e', hlt, _⟩ := q5 0 (by omega)
    rw [← r1, ha'] at e'
    simp only [Option.some.injEq, Addr.mk.injEq, and_true] at e'
    obtain ⟨rfl, rfl⟩ := e'
    exact (hs b hC hlt).2 hg

/-- One round: the row v that it fills, from block B on; old blocks behind b8 are as they were in K. -/
structure MI (w : World) (b6 b8 B : Nat) (K : World) (k0 k1 k2 k3 k4 : Bool) (us va : Value) (l : List Iq.Ln) (cs : List Value) (v : Value) (es : List El) (L : List Iq.Ln) (W : World) : Prop where
  pw : PW w b6 b8 k0 k1 k2 k3 k4 us va cs W
  la : LpA W v va l
  lo : Lo W B 37 v es L
  far : ∀ e ∈ es, ∀ g, g ≤ b8 → Far g e
  old : ∀ b, b8 < b → b < B → W.heap[b]? = K.heap[b]?
  lB : b8 < B
  BW : B ≤ W.heap.size

section
variable {w : World} {b6 b8 B : Nat} {K : World} {k0 k1 k2 k3 k4 : Bool} {us va va' : Value} {l l' : List Iq.Ln} {cs : List Value} {v v' : Value} {es : List El} {L : List Iq.Ln} {W W' : World}
theorem MI.step (h : MI w b6 b8 B K k0 k1 k2 k3 k4 us va l cs v es L W) (hb : Below W.heap.size W W') : MI w b6 b8 B K k0 k1 k2 k3 k4 us va l cs v es L W' :=
  ⟨h.pw.step hb, h.la.below hb, h.lo.low hb, h.far, fun b h1 h2 => (hb.block b (by have := h.BW; omega)).trans (h.old b h1 h2), h.lB, Nat.le_trans h.BW hb.size⟩

theorem MI.put {C : Nat} (h : MI w b6 b8 B K k0 k1 k2 k3 k4 us va l cs v es L W) (hl : LpF C W va' l') (hC : b6 < C) (hv : ∀ g, v.ownBlock = some g → g < C) (n0 n1 n2 n3 n4 : Bool) :
    MI w b6 b8 B K n0 n1 n2 n3 n4 us va' l' cs v es L ((((((W.setCell ⟨b6, 0, none⟩ (.bool n0)).setCell ⟨b6, 1, none⟩ (.bool n1)).setCell ⟨b6, 2, none⟩ (.bool n2)).setCell ⟨b6, 3, none⟩ (.bool n3)).setCell ⟨b6, 4, none⟩ (.bool n4)).setCell ⟨b6, 5, none⟩ va') := by
  have h8 := h.pw.l8
  have hB := h.lB
  have hk : ∀ b, b ≠ b6 → ((((((W.setCell ⟨b6, 0, none⟩ (.bool n0)).setCell ⟨b6, 1, none⟩ (.bool n1)).setCell ⟨b6, 2, none⟩ (.bool n2)).setCell ⟨b6, 3, none⟩ (.bool n3)).setCell ⟨b6, 4, none⟩ (.bool n4)).setCell ⟨b6, 5, none⟩ va').heap[b]? = W.heap[b]? := fun b hb => set6_heap hb _ _ _ _ _ _
  refine ⟨h.pw.put n0 n1 n2 n3 n4 va', (hl.keep fun b hb _ => hk b (by omega)).lpa hv, h.lo.other (g0 := b6) (fun e => by have := (h.lo.own.lt _ e).1; omega) (fun e he => h.far e he b6 (by omega)) hk, h.far, fun b h1 h2 => (hk b (by omega)).trans (h.old b h1 h2), h.lB, ?_⟩
  simpa [World.setCell] using h.BW

/-- The row with one more, stored into its part. -/
theorem MI.snoc {C : Nat} {e : El} {x : Iq.Ln} (h : MI w b6 b8 B K k0 k1 k2 k3 k4 us va l cs v es L W) (hl : LpF C W va l) (hC : b8 < C) (hv : ∀ g, v.ownBlock = some g → g < C) (he : LnR W e x) (hf : ∀ g, g ≤ b8 → Far g e) (hfv : ∀ g, v.ownBlock = some g → Far g e)
    (ho : W'.ownsRow B 37 4 v' (es.length + 1) ((es ++ [e]).flatMap el)) (hs : Spares W W' v v') (hb : Below B W W') (k : Nat) :
    PW w b6 b8 k0 k1 k2 k3 k4 us va cs W' ∧ MI w b6 b8 B K k0 k1 k2 k3 k4 us va l (cs.set k v') v' (es ++ [e]) (L ++ [x]) (W'.setCell ⟨b8, k, none⟩ v') := by
  have h8 := h.pw.l8
  have hB := h.lB
  have hpw := h.pw.above hb h.lB h.BW
  refine ⟨hpw, ?_⟩
  have hk : ∀ b, b ≠ b8 → (W'.setCell ⟨b8, k, none⟩ v').heap[b]? = W'.heap[b]? := fun b hb => Below.heap_setCell _ _ _ _ hb
  have hlo := h.lo.snoc he hfv ho hs
  have hfar : ∀ y ∈ es ++ [e], ∀ g, g ≤ b8 → Far g y := fun y hy g hg => by
    rcases List.mem_append.1 hy with hy | hy
    · exact h.far y hy g hg
    · simp at hy; subst hy; exact hf g hg
  refine ⟨hpw.setp k v', ?_, hlo.other (g0 := b8) (fun e => by have := (hlo.own.lt _ e).1; omega) (fun y hy => hfar y hy b8 (Nat.le_refl _)) hk, hfar, fun b h1 h2 => ?_, h.lB, by simpa [World.setCell] using Nat.le_trans h.BW hb.size⟩
  · refine hl.gen fun b h1 h2 => ?_
    have hne : v.ownBlock ≠ some b := fun e => by have := hv b e; omega
    exact ⟨(hk b (by omega)).trans (hs b h2 hne).1, (hs b h2 hne).2⟩
  · rw [hk b (by omega), hb.block b h2]
    exact h.old b h1 h2
end
/-- A round is over: its row is a part; the state is stored. -/
theorem MI.fin {w : World} {b6 b8 : Nat} {K W W' : World} {x0 x1 x2 x3 x4 : Bool} {us va va' v u0 u1 : Value} {l l' : List Iq.Ln} {es : List El} {k : Nat} {pk : Nat → List Iq.Ln}
    (h : MI w b6 b8 K.heap.size K x0 x1 x2 x3 x4 us va l ([u0, u1].set k v) v es (pk k) W) (hk : k < 2) (hu0 : LpF (b8 + 1) K u0 (if 0 < k then pk 0 else [])) (hu1 : LpF (b8 + 1) K u1 (if 1 < k then pk 1 else []))
    (hN : ∀ j, k ≤ j → j < 2 → [u0, u1][j]? = some (Value.slice none 0 0)) (hl : LpF W.heap.size W' va' l') (hb : Below W.heap.size W W') (n0 n1 n2 n3 n4 : Bool) :
    ∃ u0' u1', PW w b6 b8 n0 n1 n2 n3 n4 us va' [u0', u1'] ((((((W'.setCell ⟨b6, 0, none⟩ (.bool n0)).setCell ⟨b6, 1, none⟩ (.bool n1)).setCell ⟨b6, 2, none⟩ (.bool n2)).setCell ⟨b6, 3, none⟩ (.bool n3)).setCell ⟨b6, 4, none⟩ (.bool n4)).setCell ⟨b6, 5, none⟩ va') ∧
      Lp ((((((W'.setCell ⟨b6, 0, none⟩ (.bool n0)).setCell ⟨b6, 1, none⟩ (.bool n1)).setCell ⟨b6, 2, none⟩ (.bool n2)).setCell ⟨b6, 3, none⟩ (.bool n3)).setCell ⟨b6, 4, none⟩ (.bool n4)).setCell ⟨b6, 5, none⟩ va') va' l' ∧
      LpF (b8 + 1) ((((((W'.setCell ⟨b6, 0, none⟩ (.bool n0)).setCell ⟨b6, 1, none⟩ (.bool n1)).setCell ⟨b6, 2, none⟩ (.bool n2)).setCell ⟨b6, 3, none⟩ (.bool n3)).setCell ⟨b6, 4, none⟩ (.bool n4)).setCell ⟨b6, 5, none⟩ va') u0' (if 0 < k + 1 then pk 0 else []) ∧
      LpF (b8 + 1) ((((((W'.setCell ⟨b6, 0, none⟩ (.bool n0)).setCell ⟨b6, 1, none⟩ (.bool n1)).setCell ⟨b6, 2, none⟩ (.bool n2)).setCell ⟨b6, 3, none⟩ (.bool n3)).setCell ⟨b6, 4, none⟩ (.bool n4)).setCell ⟨b6, 5, none⟩ va') u1' (if 1 < k + 1 then pk 1 else []) ∧
      (∀ j, k + 1 ≤ j → j < 2 → [u0', u1'][j]? = some (Value.slice none 0 0)) ∧ b8 < ((((((W'.setCell ⟨b6, 0, none⟩ (.bool n0)).setCell ⟨b6, 1, none⟩ (.bool n1)).setCell ⟨b6, 2, none⟩ (.bool n2)).setCell ⟨b6, 3, none⟩ (.bool n3)).setCell ⟨b6, 4, none⟩ (.bool n4)).setCell ⟨b6, 5, none⟩ va').heap.size := by
  have h6 := h.pw.l6
  have h8 := h.pw.l8
  have hlB := h.lB
  have hBW := h.BW
  have hW8 : b6 < W.heap.size := h.pw.a.lt
  have hpw := (h.pw.step hb).put n0 n1 n2 n3 n4 va'
  have hst : ∀ b, b ≠ b6 → ((((((W'.setCell ⟨b6, 0, none⟩ (.bool n0)).setCell ⟨b6, 1, none⟩ (.bool n1)).setCell ⟨b6, 2, none⟩ (.bool n2)).setCell ⟨b6, 3, none⟩ (.bool n3)).setCell ⟨b6, 4, none⟩ (.bool n4)).setCell ⟨b6, 5, none⟩ va').heap[b]? = W'.heap[b]? := fun b hb => set6_heap hb _ _ _ _ _ _
  have hsz : ((((((W'.setCell ⟨b6, 0, none⟩ (.bool n0)).setCell ⟨b6, 1, none⟩ (.bool n1)).setCell ⟨b6, 2, none⟩ (.bool n2)).setCell ⟨b6, 3, none⟩ (.bool n3)).setCell ⟨b6, 4, none⟩ (.bool n4)).setCell ⟨b6, 5, none⟩ va').heap.size = W'.heap.size := by simp [World.setCell]
  have hLp := (hl.keep fun b hb _ => hst b (by omega)).lp
  have hpart := (h.lo.lpf (B := b8 + 1) (by omega) (fun e he g hg => h.far e he g (by omega))).keep fun b h1 h2 => (hst b (by omega)).trans (hb.block b h2)
  have hold : ∀ {u : Value} {q : List Iq.Ln}, LpF (b8 + 1) K u q → LpF (b8 + 1) _ u q := fun hu => hu.keep fun b h1 h2 => (hst b (by omega)).trans ((hb.block b (by omega)).trans (h.old b (by omega) h2))
  generalize ((((((W'.setCell ⟨b6, 0, none⟩ (.bool n0)).setCell ⟨b6, 1, none⟩ (.bool n1)).setCell ⟨b6, 2, none⟩ (.bool n2)).setCell ⟨b6, 3, none⟩ (.bool n3)).setCell ⟨b6, 4, none⟩ (.bool n4)).setCell ⟨b6, 5, none⟩ va') = Z at *
  have hbz : b8 < Z.heap.size := by rw [hsz]; have := hb.size; omega
  match k, hk with
  | 0, _ =>
    refine ⟨v, u1, hpw, hLp, hpart, hold hu1, fun j h1 h2 => ?_, hbz⟩
    have : j = 1 := by omega
    subst this
    exact hN 1 (by omega) (by omega)
  | 1, _ =>
    refine ⟨u0, v, hpw, hLp, hold hu0, hpart, fun j h1 h2 => by omega, hbz⟩
end Go.Proofs.Ytehniblcodkmaaa
