/-
  The walk of Do of disk (printed by gen/mk11do.py).
-/
import Derived.Test.YteeoonoccklhmaaDe
namespace Go.Proofs.Yteeoonoccklhmaa
open Go.RowKit

theorem Dw.store {w W : World} {ub uc ul : Value} {es : List Tr} {bs : List (List UInt8)} {cd ld : List UInt8} {X : Nat → Prop} {B b : Nat} (h : Dw B X W ub uc ul es bs cd ld) (hb : b < B) (hl : Below w.heap.size w W) (hw : w.heap.size ≤ b)
    (hE : Av X (fun W => ∀ i (h : i < es.length) (h' : i < bs.length), Sl eb W (et es[i]) bs[i]) w) (v0 v1 v2 v3 v4 v5 v6 v7 v8 v9 : Value) :
    Dw w.heap.size X ((((((((((W.setCell ⟨b, 0, none⟩ v0).setCell ⟨b, 1, none⟩ v1).setCell ⟨b, 2, none⟩ v2).setCell ⟨b, 3, none⟩ v3).setCell ⟨b, 4, none⟩ v4).setCell ⟨b, 5, none⟩ v5).setCell ⟨b, 6, none⟩ v6).setCell ⟨b, 7, none⟩ v7).setCell ⟨b, 8, none⟩ v8).setCell ⟨b, 9, none⟩ v9) ub uc ul es bs cd ld ∧ Below w.heap.size w ((((((((((W.setCell ⟨b, 0, none⟩ v0).setCell ⟨b, 1, none⟩ v1).setCell ⟨b, 2, none⟩ v2).setCell ⟨b, 3, none⟩ v3).setCell ⟨b, 4, none⟩ v4).setCell ⟨b, 5, none⟩ v5).setCell ⟨b, 6, none⟩ v6).setCell ⟨b, 7, none⟩ v7).setCell ⟨b, 8, none⟩ v8).setCell ⟨b, 9, none⟩ v9) :=
  ⟨⟨own_keep (own_down h.r (by omega)) fun k hk => set10_heap (by have := (h.r.lt k hk).1; omega) v0 v1 v2 v3 v4 v5 v6 v7 v8 v9, h.n, hE.keep (by rw [set10_size]; exact hl.size) fun k hk _ => by rw [set10_heap (by omega)]; exact hl.block k hk,
    own_keep (own_down h.c (by omega)) fun k hk => set10_heap (by have := (h.c.lt k hk).1; omega) v0 v1 v2 v3 v4 v5 v6 v7 v8 v9, own_keep (own_down h.l (by omega)) fun k hk => set10_heap (by have := (h.l.lt k hk).1; omega) v0 v1 v2 v3 v4 v5 v6 v7 v8 v9⟩, set10 hl hw v0 v1 v2 v3 v4 v5 v6 v7 v8 v9⟩
theorem Dw.nil {B : Nat} {X : Nat → Prop} {W : World} : Dw B X W (.slice none 0 0) (.slice none 0 0) (.slice none 0 0) [] [] [] [] :=
  ⟨World.ownsRow_nil _ _ _ _, rfl, fun _ _ i h => absurd h (by simp), World.ownsRow_nil _ _ _ _, World.ownsRow_nil _ _ _ _⟩

theorem sc_size (W : World) (p : Addr) (u : Value) : (W.setCell p u).heap.size = W.heap.size := by simp [World.setCell]
/-- What Do returns. -/
def RetDo (w : World) (X : Nat → Prop) (r : Dk.St × Int) (e : Ending) (w' : World) : Prop :=
  ∃ ub uc ul es, e = .returned (.tuple #[.agg #[ub, .bool r.1.2.1, .int .i64 r.1.2.2.1.1, .int .i64 r.1.2.2.1.2.1, .int .i64 r.1.2.2.1.2.2.1, uc, .int .i64 r.1.2.2.2.1, .int .i64 r.1.2.2.2.2.1, .int .i64 r.1.2.2.2.2.2.1, ul], .int .i64 r.2]) ∧ Dw w.heap.size X w' ub uc ul es r.1.1 r.1.2.2.1.2.2.2 r.1.2.2.2.2.2.2 ∧ Below w.heap.size w w'

section
variable {bs : List (List UInt8)} {o : Bool} {ct co cp l lt la t q p : Int} {cd ld xs : List UInt8}
theorem give_A (hv : Dk.valid (bs, (o, (ct, co, cp, cd), l, (lt, la, ld))) = false) : Dk.give (bs, (o, (ct, co, cp, cd), l, (lt, la, ld))) (t, q, p, xs) = (Dk.zst, 1) := by unfold Dk.give; rw [if_pos hv]
theorem give_B (hv : Dk.valid (bs, (o, (ct, co, cp, cd), l, (lt, la, ld))) = true) (hp : Dk.prop t = false) : Dk.give (bs, (o, (ct, co, cp, cd), l, (lt, la, ld))) (t, q, p, xs) = (Dk.zst, 2) := by unfold Dk.give; simp [hv, hp]
theorem give_C (hv : Dk.valid (bs, (true, (ct, co, cp, cd), l, (lt, la, ld))) = true) (hp : Dk.prop t = true) (h : ct < t) : Dk.give (bs, (true, (ct, co, cp, cd), l, (lt, la, ld))) (t, q, p, xs) = (Dk.zst, 12) := by
  have h2 : ¬ t < ct := by omega
  unfold Dk.give Dk.top; simp [hv, hp, h, h2]
theorem give_D (hv : Dk.valid (bs, (true, (ct, co, cp, cd), l, (lt, la, ld))) = true) (hp : Dk.prop t = true) (h : t < ct) : Dk.give (bs, (true, (ct, co, cp, cd), l, (lt, la, ld))) (t, q, p, xs) = (Dk.zst, 19) := by
  unfold Dk.give Dk.top; simp [hv, hp, h]
theorem give_E (hv : Dk.valid (bs, (true, (t, co, cp, cd), l, (lt, la, ld))) = true) (hp : Dk.prop t = true) : Dk.give (bs, (true, (t, co, cp, cd), l, (lt, la, ld))) (t, q, p, xs) = ((bs, (true, (t, co, cp, cd), l, (lt, la, ld))), 0) := by
  unfold Dk.give Dk.top; simp [hv, hp]
theorem give_F (hv : Dk.valid (bs, (false, (ct, co, cp, cd), l, (lt, la, ld))) = true) (hp : Dk.prop t = true) (h : t < lt) : Dk.give (bs, (false, (ct, co, cp, cd), l, (lt, la, ld))) (t, q, p, xs) = (Dk.zst, 19) := by
  unfold Dk.give Dk.top; simp [hv, hp, h]
theorem give_G (hv : Dk.valid (bs, (false, (ct, co, cp, cd), l, (t, la, ld))) = true) (hp : Dk.prop t = true) : Dk.give (bs, (false, (ct, co, cp, cd), l, (t, la, ld))) (t, q, p, xs) = ((bs, (true, (t, 0, 0, []), 1, (t, la, ld))), 0) := by
  unfold Dk.give Dk.top; simp [hv, hp]
theorem give_H (hv : Dk.valid (bs, (false, (ct, co, cp, cd), l, (lt, la, ld))) = true) (hp : Dk.prop t = true) (h : lt < t) : Dk.give (bs, (false, (ct, co, cp, cd), l, (lt, la, ld))) (t, q, p, xs) = ((bs, (true, (t, q, p, xs), Dk.dur (t, q, p, xs), (lt, la, ld))), 0) := by
  have h2 : ¬ t < lt := by omega
  have h3 : ¬ t = lt := by omega
  unfold Dk.give Dk.top; simp [hv, hp, h2, h3]
theorem dur_t (h : Dk.blk p = true) : Dk.dur (t, q, p, xs) = 1 + p.tmod 3 := by unfold Dk.dur; simp [h]
theorem dur_w (h : Dk.blk p = true) : Dk.dur (t, q, p, xs) = wrap64 (1 + p.tmod 3) := by
  rw [dur_t h]
  unfold Dk.blk at h
  simp at h
  have := Int.tmod_eq_emod_of_nonneg (a := p) (b := 3) h.1
  rw [this]
  unfold wrap64
  omega
theorem dur_f (h : Dk.blk p = false) : Dk.dur (t, q, p, xs) = 1 := by unfold Dk.dur; simp [h]
end
end Go.Proofs.Yteeoonoccklhmaa
