/-
  The walk of awake of the laws; the contracts of Raise, Mask and Take with their results laid open.
-/
import Derived.Test.YtehniblcodkmaaaIl
namespace Go.Proofs.Ytehniblcodkmaaa
open Go.RowKit

section
variable {m0 m1 m2 m3 m4 n0 n1 n2 n3 n4 ok : Bool} {u vx : Value} {ls l : List Iq.Ln} {x : Iq.Ln} {w : World} {c d t z : Int} {ys : List UInt8}

theorem Lp.form {v : Value} (h : Lp w v l) : ∃ a k, v = .slice a l.length k := by
  obtain ⟨a, k, h1, _⟩ := h.open
  exact ⟨a, k, h1⟩

theorem RetSF.open {e : Ending} {w' : World} {r : Iq.St × Int} (h : RetSF w r e w') (hr : r = (([n0, n1, n2, n3, n4], l), c)) :
    ∃ a k, e = .returned (.tuple #[.agg #[.bool n0, .bool n1, .bool n2, .bool n3, .bool n4, .slice a l.length k], .int .i64 c]) ∧ LpF w.heap.size w' (.slice a l.length k) l ∧ Below w.heap.size w w' := by
  subst hr
  obtain ⟨k0, k1, k2, k3, k4, v', hm, rfl, hl, hb⟩ := h
  simp only [List.cons.injEq, and_true] at hm
  obtain ⟨rfl, rfl, rfl, rfl, rfl⟩ := hm
  obtain ⟨a, k, rfl⟩ := hl.lp.form
  exact ⟨a, k, rfl, hl, hb⟩

theorem RetTk.open {e : Ending} {w' : World} {r : Iq.St × Iq.Ln × Bool} (h : RetTk w r e w') (hr : r = (([n0, n1, n2, n3, n4], l), (d, t, z, ys), ok)) :
    ∃ a k a2 k2, e = .returned (.tuple #[.agg #[.bool n0, .bool n1, .bool n2, .bool n3, .bool n4, .slice a l.length k], .agg #[.int .i64 d, .int .i64 t, .int .i64 z, .slice a2 ys.length k2], .bool ok]) ∧ LpF w.heap.size w' (.slice a l.length k) l ∧ LvF w.heap.size w' (.slice a2 ys.length k2) ys ∧ Below w.heap.size w w' := by
  subst hr
  obtain ⟨k0, k1, k2, k3, k4, v', u', hm, rfl, hl, hs, hb⟩ := h
  simp only [List.cons.injEq, and_true] at hm
  obtain ⟨rfl, rfl, rfl, rfl, rfl⟩ := hm
  obtain ⟨a, k, rfl⟩ := hl.lp.form
  obtain ⟨a2, k2, rfl, -⟩ := id hs.1
  exact ⟨a, k, a2, k2, rfl, hl, hs, hb⟩

theorem raise_o (h : Lp w u ls) (hx : Lv w vx x) (hr : Iq.raise ([m0, m1, m2, m3, m4], ls) x = (([n0, n1, n2, n3, n4], l), c)) :
    Calls Try.prog 20 #[.agg #[.bool m0, .bool m1, .bool m2, .bool m3, .bool m4, u], vx] w fun e w' => ∃ a k, e = .returned (.tuple #[.agg #[.bool n0, .bool n1, .bool n2, .bool n3, .bool n4, .slice a l.length k], .int .i64 c]) ∧ LpF w.heap.size w' (.slice a l.length k) l ∧ Below w.heap.size w w' :=
  (raise_w h hx).mono fun _ _ h => h.open hr

theorem mask_o (n : Int) (on : Bool) (h : Lp w u ls) (hr : Iq.mask ([m0, m1, m2, m3, m4], ls) n on = (([n0, n1, n2, n3, n4], l), c)) :
    Calls Try.prog 14 #[.agg #[.bool m0, .bool m1, .bool m2, .bool m3, .bool m4, u], .int .i64 n, .bool on] w fun e w' => ∃ a k, e = .returned (.tuple #[.agg #[.bool n0, .bool n1, .bool n2, .bool n3, .bool n4, .slice a l.length k], .int .i64 c]) ∧ LpF w.heap.size w' (.slice a l.length k) l ∧ Below w.heap.size w w' :=
  (mask_w n on h).mono fun _ _ h => h.open hr

theorem take_o (h : Lp w u ls) (hr : Iq.take ([m0, m1, m2, m3, m4], ls) = (([n0, n1, n2, n3, n4], l), (d, t, z, ys), ok)) :
    Calls Try.prog 15 #[.agg #[.bool m0, .bool m1, .bool m2, .bool m3, .bool m4, u]] w fun e w' => ∃ a k a2 k2, e = .returned (.tuple #[.agg #[.bool n0, .bool n1, .bool n2, .bool n3, .bool n4, .slice a l.length k], .agg #[.int .i64 d, .int .i64 t, .int .i64 z, .slice a2 ys.length k2], .bool ok]) ∧ LpF w.heap.size w' (.slice a l.length k) l ∧ LvF w.heap.size w' (.slice a2 ys.length k2) ys ∧ Below w.heap.size w w' :=
  (take_w h).mono fun _ _ h => h.open hr
end

/-- A new box that holds a state. -/
theorem box_new {w W : World} {b n : Nat} {T : TypeId} {m0 m1 m2 m3 m4 : Bool} {a : Option Addr} {k B : Nat} {l : List Iq.Ln} (hL : LpF B W (.slice a n k) l) (hlow : Below w.heap.size w W) (hb : b = W.heap.size) :
    ∀ W', W' = W.alloc (.cells #[.bool m0, .bool m1, .bool m2, .bool m3, .bool m4, .slice a n k] T (0, 0)) → Bk W' b T (stC m0 m1 m2 m3 m4 (.slice a n k)) ∧ Lp W' (.slice a n k) l ∧ Below w.heap.size w W' := fun W' h => by
  subst h hb
  exact ⟨Bk.new W _ (stC m0 m1 m2 m3 m4 (.slice a n k)), hL.lp.below (low_alloc _ _) (Nat.le_refl _), hlow.alloc hlow.size _⟩

/-- A state stored into its box. -/
theorem box_set {w W : World} {b n B : Nat} {T : TypeId} {m0 m1 m2 m3 m4 n0 n1 n2 n3 n4 : Bool} {u : Value} {a : Option Addr} {k : Nat} {l : List Iq.Ln} (hK : Bk W b T (stC m0 m1 m2 m3 m4 u)) (hL : LpF B W (.slice a n k) l) (hbB : b < B) (hlow : Below w.heap.size w W) (hwb : w.heap.size ≤ b) :
    ∀ W', W' = (((((W.setCell ⟨b, 0, none⟩ (.bool n0)).setCell ⟨b, 1, none⟩ (.bool n1)).setCell ⟨b, 2, none⟩ (.bool n2)).setCell ⟨b, 3, none⟩ (.bool n3)).setCell ⟨b, 4, none⟩ (.bool n4)).setCell ⟨b, 5, none⟩ (.slice a n k) →
      Bk W' b T (stC n0 n1 n2 n3 n4 (.slice a n k)) ∧ Lp W' (.slice a n k) l ∧ Below w.heap.size w W' ∧ ∀ g, g ≠ b → W'.heap[g]? = W.heap[g]? := fun W' h => by
  subst h
  exact ⟨(((((hK.set 0 (.bool n0)).set 1 (.bool n1)).set 2 (.bool n2)).set 3 (.bool n3)).set 4 (.bool n4)).set 5 _, (hL.keep fun g hg _ => set6_heap (by omega) _ _ _ _ _ _).lp, set6 hlow hwb _ _ _ _ _ _, fun g hg => set6_heap hg _ _ _ _ _ _⟩

def l1 : List Iq.Ln := [(1, 2, 0, [])]
def l2 : List Iq.Ln := [(1, 2, 0, []), (2, 1, 0, [])]

set_option maxRecDepth 20000 in
set_option maxHeartbeats 3200000 in
theorem awake_w (w : World) : Calls Try.prog 10 #[] w fun e w' => e = .returned (.bool true) ∧ Below w.heap.size w w' := by
  have H1 : Hid (∀ W, Calls Try.prog 20 #[.agg #[.bool false, .bool false, .bool false, .bool false, .bool false, .slice none 0 0], .agg #[.int .i64 1, .int .i64 2, .int .i64 0, .slice none 0 0]] W fun e w' => ∃ a k, e = .returned (.tuple #[.agg #[.bool false, .bool false, .bool false, .bool false, .bool false, .slice a 1 k], .int .i64 0]) ∧ LpF W.heap.size w' (.slice a 1 k) l1 ∧ Below W.heap.size W w') := fun W =>
    raise_o (ls := []) (l := l1) (x := (1, 2, 0, [])) Lp.nil ⟨_, rfl, Sl.nil _ _⟩ (by kernel_rfl)
  have H2 : Hid (∀ W a k, Lp W (.slice a 1 k) l1 → Calls Try.prog 20 #[.agg #[.bool false, .bool false, .bool false, .bool false, .bool false, .slice a 1 k], .agg #[.int .i64 2, .int .i64 1, .int .i64 0, .slice none 0 0]] W fun e w' => ∃ a k, e = .returned (.tuple #[.agg #[.bool false, .bool false, .bool false, .bool false, .bool false, .slice a 2 k], .int .i64 0]) ∧ LpF W.heap.size w' (.slice a 2 k) l2 ∧ Below W.heap.size W w') := fun W a k h =>
    raise_o (ls := l1) (l := l2) (x := (2, 1, 0, [])) h ⟨_, rfl, Sl.nil _ _⟩ (by kernel_rfl)
  have H3 : Hid (∀ W a k, Lp W (.slice a 2 k) l2 → Calls Try.prog 14 #[.agg #[.bool false, .bool false, .bool false, .bool false, .bool false, .slice a 2 k], .int .i64 1, .bool true] W fun e w' => ∃ a k, e = .returned (.tuple #[.agg #[.bool false, .bool true, .bool false, .bool false, .bool false, .slice a 2 k], .int .i64 0]) ∧ LpF W.heap.size w' (.slice a 2 k) l2 ∧ Below W.heap.size W w') := fun W a k h =>
    mask_o (ls := l2) (l := l2) 1 true h (by kernel_rfl)
  have H4 : Hid (∀ W a k, Lp W (.slice a 2 k) l2 → Calls Try.prog 15 #[.agg #[.bool false, .bool true, .bool false, .bool false, .bool false, .slice a 2 k]] W fun e w' => ∃ a k a2 k2, e = .returned (.tuple #[.agg #[.bool false, .bool true, .bool false, .bool false, .bool false, .slice a 1 k], .agg #[.int .i64 2, .int .i64 1, .int .i64 0, .slice a2 0 k2], .bool true]) ∧ LpF W.heap.size w' (.slice a 1 k) l1 ∧ LvF W.heap.size w' (.slice a2 0 k2) [] ∧ Below W.heap.size W w') := fun W a k h =>
    take_o (ls := l2) (l := l1) (d := 2) (t := 1) (z := 0) (ys := []) h (by kernel_rfl)
  go_enter Try.func10, Try.ntmps10
  go_upto_region 2 with (go_at_call 20; (with_reducible refine (H1.out _).mono ?_); rintro e w1 ⟨a1, k1, rfl, hl1, hb1⟩)
  have hb := hb1.size
  generalize hb0 : w1.heap.size = b at *
  obtain ⟨W1, hW1⟩ : ∃ W1, W1 = w1.alloc (.cells #[.bool false, .bool false, .bool false, .bool false, .bool false, .slice a1 1 k1] 30 (0, 0)) := ⟨_, rfl⟩
  rw [← hW1]
  obtain ⟨hK1, hL1, hlow1⟩ := box_new (w := w) hl1 hb1 hb0.symm W1 hW1
  have HB0 := Lib.hid hb0
  clear hb0 hl1 hb1 hW1 H1
  have HL1 := Lib.hid hL1
  obtain ⟨p0, p1, p2, p3, p4, p5, -⟩ := hK1.box
  go_upto_region 3 with (go_at_call 20; (with_reducible refine (H2.out _ _ _ HL1.out).mono ?_); rintro e w2 ⟨a2, k2, rfl, hl2, hb2⟩; have hK2 := hK1.below hb2 hK1.lt; obtain ⟨-, -, -, -, -, -, z0, z1, z2, z3, z4, z5⟩ := hK2.box; obtain ⟨r0, r1, r2, r3, r4, r5, -⟩ := hK2.box)
  obtain ⟨W2, hW2⟩ : ∃ W2, W2 = (((((w2.setCell ⟨b, 0, none⟩ (.bool false)).setCell ⟨b, 1, none⟩ (.bool false)).setCell ⟨b, 2, none⟩ (.bool false)).setCell ⟨b, 3, none⟩ (.bool false)).setCell ⟨b, 4, none⟩ (.bool false)).setCell ⟨b, 5, none⟩ (.slice a2 2 k2) := ⟨_, rfl⟩
  rw [← hW2]
  obtain ⟨hK3, hL3, hlow3, -⟩ := box_set (w := w) hK2 hl2 hK1.lt (stepAny hlow1 hb2) hb W2 hW2
  clear hK1 hK2 hl2 hb2 hW2 H2 p0 p1 p2 p3 p4 p5 z0 z1 z2 z3 z4 z5 r0 r1 r2 r3 r4 r5 hL1 HL1 hlow1
  have HL3 := Lib.hid hL3
  obtain ⟨p0, p1, p2, p3, p4, p5, -⟩ := hK3.box
  go_upto_region 4 with (go_at_call 14; (with_reducible refine (H3.out _ _ _ HL3.out).mono ?_); rintro e w3 ⟨a3, k3, rfl, hl4, hb4⟩; have hK4 := hK3.below hb4 hK3.lt; obtain ⟨-, -, -, -, -, -, z0, z1, z2, z3, z4, z5⟩ := hK4.box; obtain ⟨r0, r1, r2, r3, r4, r5, -⟩ := hK4.box)
  obtain ⟨W3, hW3⟩ : ∃ W3, W3 = (((((w3.setCell ⟨b, 0, none⟩ (.bool false)).setCell ⟨b, 1, none⟩ (.bool true)).setCell ⟨b, 2, none⟩ (.bool false)).setCell ⟨b, 3, none⟩ (.bool false)).setCell ⟨b, 4, none⟩ (.bool false)).setCell ⟨b, 5, none⟩ (.slice a3 2 k3) := ⟨_, rfl⟩
  rw [← hW3]
  obtain ⟨hK5, hL5, hlow5, -⟩ := box_set (w := w) hK4 hl4 hK3.lt (stepAny hlow3 hb4) hb W3 hW3
  clear hK3 hK4 hl4 hb4 hW3 H3 p0 p1 p2 p3 p4 p5 z0 z1 z2 z3 z4 z5 r0 r1 r2 r3 r4 r5 hL3 HL3 hlow3
  have HL5 := Lib.hid hL5
  obtain ⟨p0, p1, p2, p3, p4, p5, -⟩ := hK5.box
  go_wp2_with (go_at_call 15; (with_reducible refine (H4.out _ _ _ HL5.out).mono ?_); rintro e w4 ⟨a4, k4, a5, k5, rfl, -, -, hb6⟩)
  go_ret
  exact ⟨rfl, ((stepAny hlow5 hb6).alloc (stepAny hlow5 hb6).size _).alloc (by have := (stepAny hlow5 hb6).size; simp; omega) _⟩
end Go.Proofs.Ytehniblcodkmaaa
