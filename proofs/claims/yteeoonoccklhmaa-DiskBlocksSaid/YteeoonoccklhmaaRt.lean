/-
  The walk of Take of the reference (printed by gen/mk11rt.py).
-/
import Derived.Test.YteeoonoccklhmaaRd
namespace Dk
/-- A command given to a channel, k being its duration. -/
def take (c : Ch) (x : Cm) (k : Int) : Ch × Int :=
  if x.1 < top c then (zch, 19)
  else if c.1 = true then (if top c < x.1 then (zch, 12) else (c, 0))
  else if x.1 = top c then ((true, (x.1, 0, 0, []), 1, c.2.2.2), 0)
  else ((true, x, k, c.2.2.2), 0)
theorem give_take (s : St) (c : Cm) : give s c = if valid s = false then (zst, 1) else if prop c.1 = false then (zst, 2) else if (take s.2 c (dur c)).2 = 0 then ((s.1, (take s.2 c (dur c)).1), 0) else (zst, (take s.2 c (dur c)).2) := by
  unfold give
  split
  · rfl
  · split
    · rfl
    · unfold take
      split
      · simp
      · split
        · split
          · simp
          · simp
        · split <;> simp
end Dk
namespace Go.Proofs.Yteeoonoccklhmaa
open Go.RowKit
set_option linter.unusedVariables false

/-- A new empty row, its number a letter. -/
theorem own_new {w : World} {base n s : Nat} {e : TypeId} (hn : n = w.heap.size) (hb : base ≤ n) : (w.alloc (.cells #[] e (0, 0))).ownsRow base e s (.slice (some ⟨n, 0, none⟩) 0 0) 0 [] := by
  subst hn
  exact World.ownsRow_made w #[] 0 hb (Nat.zero_le _) (by simp)
theorem set9_heap {W : World} {b k : Nat} (hk : k ≠ b) (v0 v1 v2 v3 v4 v5 v6 v7 v8 : Value) : (((((((((W.setCell ⟨b, 0, none⟩ v0).setCell ⟨b, 1, none⟩ v1).setCell ⟨b, 2, none⟩ v2).setCell ⟨b, 3, none⟩ v3).setCell ⟨b, 4, none⟩ v4).setCell ⟨b, 5, none⟩ v5).setCell ⟨b, 6, none⟩ v6).setCell ⟨b, 7, none⟩ v7).setCell ⟨b, 8, none⟩ v8).heap[k]? = W.heap[k]? := by
  rw [Below.heap_setCell _ _ _ _ hk, Below.heap_setCell _ _ _ _ hk, Below.heap_setCell _ _ _ _ hk, Below.heap_setCell _ _ _ _ hk, Below.heap_setCell _ _ _ _ hk, Below.heap_setCell _ _ _ _ hk, Below.heap_setCell _ _ _ _ hk, Below.heap_setCell _ _ _ _ hk, Below.heap_setCell _ _ _ _ hk]
theorem set9_cell {W : World} {b k j : Nat} (hk : k ≠ b) (v0 v1 v2 v3 v4 v5 v6 v7 v8 : Value) : (((((((((W.setCell ⟨b, 0, none⟩ v0).setCell ⟨b, 1, none⟩ v1).setCell ⟨b, 2, none⟩ v2).setCell ⟨b, 3, none⟩ v3).setCell ⟨b, 4, none⟩ v4).setCell ⟨b, 5, none⟩ v5).setCell ⟨b, 6, none⟩ v6).setCell ⟨b, 7, none⟩ v7).setCell ⟨b, 8, none⟩ v8).cell? ⟨k, j, none⟩ = W.cell? ⟨k, j, none⟩ := World.cell?_of_block (a := ⟨k, j, none⟩) (set9_heap hk _ _ _ _ _ _ _ _ _)
theorem set9 {w W : World} {b : Nat} (h : Below w.heap.size w W) (hb : w.heap.size ≤ b) (v0 v1 v2 v3 v4 v5 v6 v7 v8 : Value) : Below w.heap.size w (((((((((W.setCell ⟨b, 0, none⟩ v0).setCell ⟨b, 1, none⟩ v1).setCell ⟨b, 2, none⟩ v2).setCell ⟨b, 3, none⟩ v3).setCell ⟨b, 4, none⟩ v4).setCell ⟨b, 5, none⟩ v5).setCell ⟨b, 6, none⟩ v6).setCell ⟨b, 7, none⟩ v7).setCell ⟨b, 8, none⟩ v8) :=
  ((((((((h.setCell hb _).setCell hb _).setCell hb _).setCell hb _).setCell hb _).setCell hb _).setCell hb _).setCell hb _).setCell hb _
/-- What Take returns. -/
def RetTake (w : World) (X : Nat → Prop) (r : Dk.Ch × Int) (e : Ending) (w' : World) : Prop :=
  ∃ uc ul, e = .returned (.tuple #[.agg #[.bool r.1.1, .int .i64 r.1.2.1.1, .int .i64 r.1.2.1.2.1, .int .i64 r.1.2.1.2.2.1, uc, .int .i64 r.1.2.2.1, .int .i64 r.1.2.2.2.1, .int .i64 r.1.2.2.2.2.1, ul], .int .i64 r.2]) ∧ Av X (fun W => Sl eb W uc r.1.2.1.2.2.2) w' ∧ Av X (fun W => Sl eb W ul r.1.2.2.2.2.2) w' ∧ Below w.heap.size w w'

set_option maxRecDepth 100000 in
set_option maxHeartbeats 3200000 in
theorem take_dup_t (ct co cp l lt la t q p k : Int) {uc ul ux : Value} {cd ld xs : List UInt8} {w : World} {X : Nat → Prop} (hX : ∀ b, X b → b < w.heap.size) (hc : Av X (fun W => Sl eb W uc cd) w) (hl : Av X (fun W => Sl eb W ul ld) w) (hx : Sl eb w ux xs) (hxs : xs.length ≤ 1000) (h : t < ct) :
    Calls Try.prog 34 #[.agg #[.bool true, .int .i64 ct, .int .i64 co, .int .i64 cp, uc, .int .i64 l, .int .i64 lt, .int .i64 la, ul], .agg #[.int .i64 t, .int .i64 q, .int .i64 p, ux], .int .i64 k] w (RetTake w X (Dk.zch, 19)) := by
  obtain ⟨ac, kc, hu1, -⟩ := id hc.here
  obtain ⟨al, kl, hu2, -⟩ := id hl.here
  obtain ⟨ax, kx, hu3, hx2, hx3, hx4, hx5⟩ := id hx
  subst hu1 hu2 hu3
  have HL : Hid (Below w.heap.size w (((w.alloc (.cells #[.bool true, .int .i64 ct, .int .i64 co, .int .i64 cp, .slice ac cd.length kc, .int .i64 l, .int .i64 lt, .int .i64 la, .slice al ld.length kl] 29 (0, 0))).alloc (.cells #[.int .i64 t, .int .i64 q, .int .i64 p, .slice ax xs.length kx] 25 (0, 0))).alloc (.cells #[.bool false, .int .i64 0, .int .i64 0, .int .i64 0, .slice none 0 0, .int .i64 0, .int .i64 0, .int .i64 0, .slice none 0 0] 29 (0, 0)))) := ((low_alloc _ _).alloc (by simp) _).alloc (by simp; omega) _
  have HC := Lib.hid hc
  have HLD := Lib.hid hl
  have HX := Lib.hid hx5
  have HXL := Lib.hid hX
  clear hc hl hx hx5 hX
  go_enter Try.func34, Try.ntmps34
  go_wp2_with fail
  refine bodyPost_ret (v := .tuple #[.agg #[.bool false, .int .i64 0, .int .i64 0, .int .i64 0, .slice none 0 0, .int .i64 0, .int .i64 0, .int .i64 0, .slice none 0 0], .int .i64 19]) (by simp [results, Try.results34, go_sem]) rfl ⟨_, _, rfl, fun _ _ => Sl.nil _ _, fun _ _ => Sl.nil _ _, ?_⟩
  exact ((low_alloc _ _).alloc (by simp) _).alloc (by simp; omega) _

set_option maxRecDepth 100000 in
set_option maxHeartbeats 3200000 in
theorem take_dup_f (ct co cp l lt la t q p k : Int) {uc ul ux : Value} {cd ld xs : List UInt8} {w : World} {X : Nat → Prop} (hX : ∀ b, X b → b < w.heap.size) (hc : Av X (fun W => Sl eb W uc cd) w) (hl : Av X (fun W => Sl eb W ul ld) w) (hx : Sl eb w ux xs) (hxs : xs.length ≤ 1000) (h : t < lt) :
    Calls Try.prog 34 #[.agg #[.bool false, .int .i64 ct, .int .i64 co, .int .i64 cp, uc, .int .i64 l, .int .i64 lt, .int .i64 la, ul], .agg #[.int .i64 t, .int .i64 q, .int .i64 p, ux], .int .i64 k] w (RetTake w X (Dk.zch, 19)) := by
  obtain ⟨ac, kc, hu1, -⟩ := id hc.here
  obtain ⟨al, kl, hu2, -⟩ := id hl.here
  obtain ⟨ax, kx, hu3, hx2, hx3, hx4, hx5⟩ := id hx
  subst hu1 hu2 hu3
  have HL : Hid (Below w.heap.size w (((w.alloc (.cells #[.bool false, .int .i64 ct, .int .i64 co, .int .i64 cp, .slice ac cd.length kc, .int .i64 l, .int .i64 lt, .int .i64 la, .slice al ld.length kl] 29 (0, 0))).alloc (.cells #[.int .i64 t, .int .i64 q, .int .i64 p, .slice ax xs.length kx] 25 (0, 0))).alloc (.cells #[.bool false, .int .i64 0, .int .i64 0, .int .i64 0, .slice none 0 0, .int .i64 0, .int .i64 0, .int .i64 0, .slice none 0 0] 29 (0, 0)))) := ((low_alloc _ _).alloc (by simp) _).alloc (by simp; omega) _
  have HC := Lib.hid hc
  have HLD := Lib.hid hl
  have HX := Lib.hid hx5
  have HXL := Lib.hid hX
  clear hc hl hx hx5 hX
  go_enter Try.func34, Try.ntmps34
  go_wp2_with fail
  refine bodyPost_ret (v := .tuple #[.agg #[.bool false, .int .i64 0, .int .i64 0, .int .i64 0, .slice none 0 0, .int .i64 0, .int .i64 0, .int .i64 0, .slice none 0 0], .int .i64 19]) (by simp [results, Try.results34, go_sem]) rfl ⟨_, _, rfl, fun _ _ => Sl.nil _ _, fun _ _ => Sl.nil _ _, ?_⟩
  exact ((low_alloc _ _).alloc (by simp) _).alloc (by simp; omega) _

set_option maxRecDepth 100000 in
set_option maxHeartbeats 3200000 in
theorem take_busy (ct co cp l lt la t q p k : Int) {uc ul ux : Value} {cd ld xs : List UInt8} {w : World} {X : Nat → Prop} (hX : ∀ b, X b → b < w.heap.size) (hc : Av X (fun W => Sl eb W uc cd) w) (hl : Av X (fun W => Sl eb W ul ld) w) (hx : Sl eb w ux xs) (hxs : xs.length ≤ 1000) (h : ct < t) :
    Calls Try.prog 34 #[.agg #[.bool true, .int .i64 ct, .int .i64 co, .int .i64 cp, uc, .int .i64 l, .int .i64 lt, .int .i64 la, ul], .agg #[.int .i64 t, .int .i64 q, .int .i64 p, ux], .int .i64 k] w (RetTake w X (Dk.zch, 12)) := by
  obtain ⟨ac, kc, hu1, -⟩ := id hc.here
  obtain ⟨al, kl, hu2, -⟩ := id hl.here
  obtain ⟨ax, kx, hu3, hx2, hx3, hx4, hx5⟩ := id hx
  subst hu1 hu2 hu3
  have HL : Hid (Below w.heap.size w (((w.alloc (.cells #[.bool true, .int .i64 ct, .int .i64 co, .int .i64 cp, .slice ac cd.length kc, .int .i64 l, .int .i64 lt, .int .i64 la, .slice al ld.length kl] 29 (0, 0))).alloc (.cells #[.int .i64 t, .int .i64 q, .int .i64 p, .slice ax xs.length kx] 25 (0, 0))).alloc (.cells #[.bool false, .int .i64 0, .int .i64 0, .int .i64 0, .slice none 0 0, .int .i64 0, .int .i64 0, .int .i64 0, .slice none 0 0] 29 (0, 0)))) := ((low_alloc _ _).alloc (by simp) _).alloc (by simp; omega) _
  have HC := Lib.hid hc
  have HLD := Lib.hid hl
  have HX := Lib.hid hx5
  have HXL := Lib.hid hX
  clear hc hl hx hx5 hX
  have h' : ¬ t < ct := by omega
  go_enter Try.func34, Try.ntmps34
  go_wp2_with fail
  refine bodyPost_ret (v := .tuple #[.agg #[.bool false, .int .i64 0, .int .i64 0, .int .i64 0, .slice none 0 0, .int .i64 0, .int .i64 0, .int .i64 0, .slice none 0 0], .int .i64 12]) (by simp [results, Try.results34, go_sem]) rfl ⟨_, _, rfl, fun _ _ => Sl.nil _ _, fun _ _ => Sl.nil _ _, ?_⟩
  exact ((low_alloc _ _).alloc (by simp) _).alloc (by simp; omega) _

set_option maxRecDepth 100000 in
set_option maxHeartbeats 3200000 in
theorem take_same (ct co cp l lt la q p k : Int) {uc ul ux : Value} {cd ld xs : List UInt8} {w : World} {X : Nat → Prop} (hX : ∀ b, X b → b < w.heap.size) (hc : Av X (fun W => Sl eb W uc cd) w) (hl : Av X (fun W => Sl eb W ul ld) w) (hx : Sl eb w ux xs) (hxs : xs.length ≤ 1000)  :
    Calls Try.prog 34 #[.agg #[.bool true, .int .i64 ct, .int .i64 co, .int .i64 cp, uc, .int .i64 l, .int .i64 lt, .int .i64 la, ul], .agg #[.int .i64 ct, .int .i64 q, .int .i64 p, ux], .int .i64 k] w (RetTake w X ((true, (ct, co, cp, cd), l, (lt, la, ld)), 0)) := by
  obtain ⟨ac, kc, hu1, -⟩ := id hc.here
  obtain ⟨al, kl, hu2, -⟩ := id hl.here
  obtain ⟨ax, kx, hu3, hx2, hx3, hx4, hx5⟩ := id hx
  subst hu1 hu2 hu3
  have HL : Hid (Below w.heap.size w (((w.alloc (.cells #[.bool true, .int .i64 ct, .int .i64 co, .int .i64 cp, .slice ac cd.length kc, .int .i64 l, .int .i64 lt, .int .i64 la, .slice al ld.length kl] 29 (0, 0))).alloc (.cells #[.int .i64 ct, .int .i64 q, .int .i64 p, .slice ax xs.length kx] 25 (0, 0))).alloc (.cells #[.bool false, .int .i64 0, .int .i64 0, .int .i64 0, .slice none 0 0, .int .i64 0, .int .i64 0, .int .i64 0, .slice none 0 0] 29 (0, 0)))) := ((low_alloc _ _).alloc (by simp) _).alloc (by simp; omega) _
  have HC := Lib.hid hc
  have HLD := Lib.hid hl
  have HX := Lib.hid hx5
  have HXL := Lib.hid hX
  clear hc hl hx hx5 hX
  go_enter Try.func34, Try.ntmps34
  go_wp2_with fail
  refine bodyPost_ret (v := .tuple #[.agg #[.bool true, .int .i64 ct, .int .i64 co, .int .i64 cp, .slice ac cd.length kc, .int .i64 l, .int .i64 lt, .int .i64 la, .slice al ld.length kl], .int .i64 0]) (by simp [results, Try.results34, go_sem]) rfl ⟨_, _, rfl, (HC.out.below (((low_alloc _ _).alloc (by simp) _).alloc (by simp; omega) _)), (HLD.out.below (((low_alloc _ _).alloc (by simp) _).alloc (by simp; omega) _)), ?_⟩
  exact ((low_alloc _ _).alloc (by simp) _).alloc (by simp; omega) _

set_option maxRecDepth 100000 in
set_option maxHeartbeats 3200000 in
theorem take_again (ct co cp l lt la q p k : Int) {uc ul ux : Value} {cd ld xs : List UInt8} {w : World} {X : Nat → Prop} (hX : ∀ b, X b → b < w.heap.size) (hc : Av X (fun W => Sl eb W uc cd) w) (hl : Av X (fun W => Sl eb W ul ld) w) (hx : Sl eb w ux xs) (hxs : xs.length ≤ 1000)  :
    Calls Try.prog 34 #[.agg #[.bool false, .int .i64 ct, .int .i64 co, .int .i64 cp, uc, .int .i64 l, .int .i64 lt, .int .i64 la, ul], .agg #[.int .i64 lt, .int .i64 q, .int .i64 p, ux], .int .i64 k] w (RetTake w X ((true, (lt, 0, 0, []), 1, (lt, la, ld)), 0)) := by
  obtain ⟨ac, kc, hu1, -⟩ := id hc.here
  obtain ⟨al, kl, hu2, -⟩ := id hl.here
  obtain ⟨ax, kx, hu3, hx2, hx3, hx4, hx5⟩ := id hx
  subst hu1 hu2 hu3
  have HL : Hid (Below w.heap.size w (((w.alloc (.cells #[.bool false, .int .i64 ct, .int .i64 co, .int .i64 cp, .slice ac cd.length kc, .int .i64 l, .int .i64 lt, .int .i64 la, .slice al ld.length kl] 29 (0, 0))).alloc (.cells #[.int .i64 lt, .int .i64 q, .int .i64 p, .slice ax xs.length kx] 25 (0, 0))).alloc (.cells #[.bool false, .int .i64 0, .int .i64 0, .int .i64 0, .slice none 0 0, .int .i64 0, .int .i64 0, .int .i64 0, .slice none 0 0] 29 (0, 0)))) := ((low_alloc _ _).alloc (by simp) _).alloc (by simp; omega) _
  have HC := Lib.hid hc
  have HLD := Lib.hid hl
  have HX := Lib.hid hx5
  have HXL := Lib.hid hX
  clear hc hl hx hx5 hX
  go_enter Try.func34, Try.ntmps34
  go_wp2_with fail
  refine bodyPost_ret (v := .tuple #[.agg #[.bool true, .int .i64 lt, .int .i64 0, .int .i64 0, .slice none 0 0, .int .i64 1, .int .i64 lt, .int .i64 la, .slice al ld.length kl], .int .i64 0]) (by simp [results, Try.results34, go_sem]) rfl ⟨_, _, rfl, fun _ _ => Sl.nil _ _, (HLD.out.below (((low_alloc _ _).alloc (by simp) _).alloc (by simp; omega) _)), ?_⟩
  exact ((low_alloc _ _).alloc (by simp) _).alloc (by simp; omega) _

set_option maxRecDepth 100000 in
set_option maxHeartbeats 3200000 in
theorem take_new (ct co cp l lt la t q p k : Int) {uc ul ux : Value} {cd ld xs : List UInt8} {w : World} {X : Nat → Prop} (hX : ∀ b, X b → b < w.heap.size) (hc : Av X (fun W => Sl eb W uc cd) w) (hl : Av X (fun W => Sl eb W ul ld) w) (hx : Sl eb w ux xs) (hxs : xs.length ≤ 1000) (h : lt < t) :
    Calls Try.prog 34 #[.agg #[.bool false, .int .i64 ct, .int .i64 co, .int .i64 cp, uc, .int .i64 l, .int .i64 lt, .int .i64 la, ul], .agg #[.int .i64 t, .int .i64 q, .int .i64 p, ux], .int .i64 k] w (RetTake w X ((true, (t, q, p, xs), k, (lt, la, ld)), 0)) := by
  obtain ⟨ac, kc, hu1, -⟩ := id hc.here
  obtain ⟨al, kl, hu2, -⟩ := id hl.here
  obtain ⟨ax, kx, hu3, hx2, hx3, hx4, hx5⟩ := id hx
  subst hu1 hu2 hu3
  have HL : Hid (Below w.heap.size w (((w.alloc (.cells #[.bool false, .int .i64 ct, .int .i64 co, .int .i64 cp, .slice ac cd.length kc, .int .i64 l, .int .i64 lt, .int .i64 la, .slice al ld.length kl] 29 (0, 0))).alloc (.cells #[.int .i64 t, .int .i64 q, .int .i64 p, .slice ax xs.length kx] 25 (0, 0))).alloc (.cells #[.bool false, .int .i64 0, .int .i64 0, .int .i64 0, .slice none 0 0, .int .i64 0, .int .i64 0, .int .i64 0, .slice none 0 0] 29 (0, 0)))) := ((low_alloc _ _).alloc (by simp) _).alloc (by simp; omega) _
  have HC := Lib.hid hc
  have HLD := Lib.hid hl
  have HX := Lib.hid hx5
  have HXL := Lib.hid hX
  clear hc hl hx hx5 hX
  have h' : ¬ t < lt := by omega
  have h'' : ¬ t = lt := by omega
  have hq0 : (t == lt) = false := by simpa using h''
  obtain ⟨i0, hi, hz0, hz1, hz2⟩ := info_parts Try.info5
  obtain ⟨W0, hW0⟩ : ∃ W0, W0 = ((w.alloc (.cells #[.bool false, .int .i64 ct, .int .i64 co, .int .i64 cp, .slice ac cd.length kc, .int .i64 l, .int .i64 lt, .int .i64 la, .slice al ld.length kl] 29 (0, 0))).alloc (.cells #[.int .i64 t, .int .i64 q, .int .i64 p, .slice ax xs.length kx] 25 (0, 0))).alloc (.cells #[.bool false, .int .i64 0, .int .i64 0, .int .i64 0, .slice none 0 0, .int .i64 0, .int .i64 0, .int .i64 0, .slice none 0 0] 29 (0, 0)) := ⟨_, rfl⟩
  have hA : Bk W0 w.heap.size 29 [.bool false, .int .i64 ct, .int .i64 co, .int .i64 cp, .slice ac cd.length kc, .int .i64 l, .int .i64 lt, .int .i64 la, .slice al ld.length kl] := by rw [hW0]; exact ((Bk.new w _ [_, _, _, _, _, _, _, _, _]).alloc _).alloc _
  have hB : Bk W0 (w.heap.size + 1) 25 [.int .i64 t, .int .i64 q, .int .i64 p, .slice ax xs.length kx] := by rw [hW0]; exact (Bk.newAt _ _ [_, _, _, _] (by simp)).alloc _
  have hR : Bk W0 (w.heap.size + 1 + 1) 29 [.bool false, .int .i64 0, .int .i64 0, .int .i64 0, .slice none 0 0, .int .i64 0, .int .i64 0, .int .i64 0, .slice none 0 0] := by rw [hW0]; exact Bk.newAt _ _ [_, _, _, _, _, _, _, _, _] (by simp)
  rw [← hW0] at HL
  have hsz : W0.heap.size = w.heap.size + 3 := by rw [hW0]; simp
  have HSZ := Lib.hid hsz
  have HA := Lib.hid hA
  have HB := Lib.hid hB
  have HR := Lib.hid hR
  have HXX : Hid (∀ W, Below w.heap.size w W → Rd eb W ax xs) := fun W hW => HX.out.below hW (Nat.le_refl _)
  clear hA hB hR hsz h' h''
  have HLW : Hid (Below w.heap.size w ((W0.alloc (.cells #[] 5 (0, 0))).drew)) := (HL.out.alloc HL.out.size _).drew
  have HLX : Hid (Below W0.heap.size W0 ((W0.alloc (.cells #[] 5 (0, 0))).drew)) := (low_alloc _ _).drew
  have HQ : Hid (∀ W, Below W0.heap.size W0 W → (W.cell? ⟨w.heap.size, 6, none⟩ = some (.int .i64 lt) ∧ W.cell? ⟨w.heap.size, 7, none⟩ = some (.int .i64 la) ∧ W.cell? ⟨w.heap.size, 8, none⟩ = some (.slice al ld.length kl) ∧ W.cell? ⟨w.heap.size + 1, 0, none⟩ = some (.int .i64 t) ∧ W.cell? ⟨w.heap.size + 1, 1, none⟩ = some (.int .i64 q) ∧ W.cell? ⟨w.heap.size + 1, 2, none⟩ = some (.int .i64 p) ∧ W.cell? ⟨w.heap.size + 1, 3, none⟩ = some (.slice ax xs.length kx)) ∧ (W.cell? ⟨(w.heap.size + 1 + 1), 0, none⟩ = some (.bool false) ∧ W.cell? ⟨(w.heap.size + 1 + 1), 1, none⟩ = some (.int .i64 0) ∧ W.cell? ⟨(w.heap.size + 1 + 1), 2, none⟩ = some (.int .i64 0) ∧ W.cell? ⟨(w.heap.size + 1 + 1), 3, none⟩ = some (.int .i64 0) ∧ W.cell? ⟨(w.heap.size + 1 + 1), 4, none⟩ = some (.slice none 0 0) ∧ W.cell? ⟨(w.heap.size + 1 + 1), 5, none⟩ = some (.int .i64 0) ∧ W.cell? ⟨(w.heap.size + 1 + 1), 6, none⟩ = some (.int .i64 0) ∧ W.cell? ⟨(w.heap.size + 1 + 1), 7, none⟩ = some (.int .i64 0) ∧ W.cell? ⟨(w.heap.size + 1 + 1), 8, none⟩ = some (.slice none 0 0) ∧ W.frozen? ⟨w.heap.size + 1 + 1, 0, none⟩ = false ∧ W.frozen? ⟨w.heap.size + 1 + 1, 1, none⟩ = false ∧ W.frozen? ⟨w.heap.size + 1 + 1, 2, none⟩ = false ∧ W.frozen? ⟨w.heap.size + 1 + 1, 3, none⟩ = false ∧ W.frozen? ⟨w.heap.size + 1 + 1, 4, none⟩ = false ∧ W.frozen? ⟨w.heap.size + 1 + 1, 5, none⟩ = false ∧ W.frozen? ⟨w.heap.size + 1 + 1, 6, none⟩ = false ∧ W.frozen? ⟨w.heap.size + 1 + 1, 7, none⟩ = false ∧ W.frozen? ⟨w.heap.size + 1 + 1, 8, none⟩ = false)) := fun W hW => by
    have e1 := HA.out.below hW HA.out.lt
    have e2 := HB.out.below hW HB.out.lt
    have e3 := HR.out.below hW HR.out.lt
    exact ⟨⟨e1.cell 6, e1.cell 7, e1.cell 8, e2.cell 0, e2.cell 1, e2.cell 2, e2.cell 3⟩, e3.cell 0, e3.cell 1, e3.cell 2, e3.cell 3, e3.cell 4, e3.cell 5, e3.cell 6, e3.cell 7, e3.cell 8, e3.frozen 0, e3.frozen 1, e3.frozen 2, e3.frozen 3, e3.frozen 4, e3.frozen 5, e3.frozen 6, e3.frozen 7, e3.frozen 8⟩
  go_enter Try.func34, Try.ntmps34
  go_upto_region 12 with fail
  rw [← hW0]
  clear hW0
  have hl0 := low_drew W0
  have hs0 : w.heap.size + 1 + 1 < W0.heap.size := by have := HSZ.out; omega
  obtain ⟨⟨p0, p1, p2, q0, q1, q2, q3⟩, -⟩ := HQ.out _ (low_refl W0)
  go_region_held3 (fun w' => w'.cell? ⟨w.heap.size, 6, none⟩ = some (.int .i64 lt) ∧ w'.cell? ⟨w.heap.size, 7, none⟩ = some (.int .i64 la) ∧ w'.cell? ⟨w.heap.size, 8, none⟩ = some (.slice al ld.length kl) ∧ w'.cell? ⟨w.heap.size + 1, 0, none⟩ = some (.int .i64 t) ∧ w'.cell? ⟨w.heap.size + 1, 1, none⟩ = some (.int .i64 q) ∧ w'.cell? ⟨w.heap.size + 1, 2, none⟩ = some (.int .i64 p) ∧ w'.cell? ⟨w.heap.size + 1, 3, none⟩ = some (.slice ax xs.length kx)) (first | with_reducible exact ⟨p0', p1', p2', q0', q1', q2', q3'⟩ | with_reducible exact ⟨p0, p1, p2, q0, q1, q2, q3⟩ | with_reducible exact ⟨(set9_cell (by omega) _ _ _ _ _ _ _ _ _).trans p0', (set9_cell (by omega) _ _ _ _ _ _ _ _ _).trans p1', (set9_cell (by omega) _ _ _ _ _ _ _ _ _).trans p2', (set9_cell (by omega) _ _ _ _ _ _ _ _ _).trans q0', (set9_cell (by omega) _ _ _ _ _ _ _ _ _).trans q1', (set9_cell (by omega) _ _ _ _ _ _ _ _ _).trans q2', (set9_cell (by omega) _ _ _ _ _ _ _ _ _).trans q3'⟩ | go_keep) ((first
    | (refine step_append_rd eb (fun _ => rfl) (by rfl) (.tmp 54) (.tmp 56) 23 (by rfl) W0.heap.size 5 i0 (.int .u8 0) 1 Try.underlying23 hi hz0 hz1 hz2 rfl (.slice (some ⟨W0.heap.size, 0, none⟩) 0 0) 0 [] (by rfl) (own_new (s := 1) rfl (Nat.le_refl _)) ax kx xs xs.length (by rfl) rfl hx4 hx2 (HXX.out _ HLW.out) (by unfold maxLen; omega) (by omega) (by simp) ?_; intro v4 w4 ho4 hs4 hb4; rw [Nat.zero_add, List.nil_append] at ho4; obtain ⟨az, cz, rfl⟩ := own_slice ho4; have hl4 := HLX.out.trans hb4; obtain ⟨⟨p0', p1', p2', q0', q1', q2', q3'⟩, r0, r1, r2, r3, r4, r5, r6, r7, r8, z0, z1, z2, z3, z4, z5, z6, z7, z8⟩ := HQ.out w4 hl4)))
  have hb9 : w.heap.size + 1 + 1 < w4.heap.size := by have := hl4.size; omega
  have hlw4 : Below w.heap.size w w4 := HLW.out.trans (hb4.mono (by omega))
  have hk9 : Bk (((((((((w4.setCell ⟨w.heap.size + 1 + 1, 0, none⟩ (.bool true)).setCell ⟨w.heap.size + 1 + 1, 1, none⟩ (.int .i64 t)).setCell ⟨w.heap.size + 1 + 1, 2, none⟩ (.int .i64 q)).setCell ⟨w.heap.size + 1 + 1, 3, none⟩ (.int .i64 p)).setCell ⟨w.heap.size + 1 + 1, 4, none⟩ (.slice az xs.length cz)).setCell ⟨w.heap.size + 1 + 1, 5, none⟩ (.int .i64 k)).setCell ⟨w.heap.size + 1 + 1, 6, none⟩ (.int .i64 lt)).setCell ⟨w.heap.size + 1 + 1, 7, none⟩ (.int .i64 la)).setCell ⟨w.heap.size + 1 + 1, 8, none⟩ (.slice al ld.length kl)) (w.heap.size + 1 + 1) 29 [.bool true, .int .i64 t, .int .i64 q, .int .i64 p, .slice az xs.length cz, .int .i64 k, .int .i64 lt, .int .i64 la, .slice al ld.length kl] := (((((((((HR.out.below hl4 HR.out.lt).set 0 _).set 1 _).set 2 _).set 3 _).set 4 _).set 5 _).set 6 _).set 7 _).set 8 _
  have hl9 : Below w.heap.size w (((((((((w4.setCell ⟨w.heap.size + 1 + 1, 0, none⟩ (.bool true)).setCell ⟨w.heap.size + 1 + 1, 1, none⟩ (.int .i64 t)).setCell ⟨w.heap.size + 1 + 1, 2, none⟩ (.int .i64 q)).setCell ⟨w.heap.size + 1 + 1, 3, none⟩ (.int .i64 p)).setCell ⟨w.heap.size + 1 + 1, 4, none⟩ (.slice az xs.length cz)).setCell ⟨w.heap.size + 1 + 1, 5, none⟩ (.int .i64 k)).setCell ⟨w.heap.size + 1 + 1, 6, none⟩ (.int .i64 lt)).setCell ⟨w.heap.size + 1 + 1, 7, none⟩ (.int .i64 la)).setCell ⟨w.heap.size + 1 + 1, 8, none⟩ (.slice al ld.length kl)) := set9 (b := w.heap.size + 1 + 1) hlw4 (by omega) _ _ _ _ _ _ _ _ _
  have hx9 : Av X (fun W => Sl eb W (.slice az xs.length cz) xs) (((((((((w4.setCell ⟨w.heap.size + 1 + 1, 0, none⟩ (.bool true)).setCell ⟨w.heap.size + 1 + 1, 1, none⟩ (.int .i64 t)).setCell ⟨w.heap.size + 1 + 1, 2, none⟩ (.int .i64 q)).setCell ⟨w.heap.size + 1 + 1, 3, none⟩ (.int .i64 p)).setCell ⟨w.heap.size + 1 + 1, 4, none⟩ (.slice az xs.length cz)).setCell ⟨w.heap.size + 1 + 1, 5, none⟩ (.int .i64 k)).setCell ⟨w.heap.size + 1 + 1, 6, none⟩ (.int .i64 lt)).setCell ⟨w.heap.size + 1 + 1, 7, none⟩ (.int .i64 la)).setCell ⟨w.heap.size + 1 + 1, 8, none⟩ (.slice al ld.length kl)) := own_av (own_keep ho4 fun k hk => set9_heap (W := w4) (b := w.heap.size + 1 + 1) (by have := (ho4.lt k hk).1; omega) _ _ _ _ _ _ _ _ _) (fun b hb => by have := HXL.out b hb; omega)
  have hd9 : Av X (fun W => Sl eb W (.slice al ld.length kl) ld) (((((((((w4.setCell ⟨w.heap.size + 1 + 1, 0, none⟩ (.bool true)).setCell ⟨w.heap.size + 1 + 1, 1, none⟩ (.int .i64 t)).setCell ⟨w.heap.size + 1 + 1, 2, none⟩ (.int .i64 q)).setCell ⟨w.heap.size + 1 + 1, 3, none⟩ (.int .i64 p)).setCell ⟨w.heap.size + 1 + 1, 4, none⟩ (.slice az xs.length cz)).setCell ⟨w.heap.size + 1 + 1, 5, none⟩ (.int .i64 k)).setCell ⟨w.heap.size + 1 + 1, 6, none⟩ (.int .i64 lt)).setCell ⟨w.heap.size + 1 + 1, 7, none⟩ (.int .i64 la)).setCell ⟨w.heap.size + 1 + 1, 8, none⟩ (.slice al ld.length kl)) := HLD.out.below hl9
  generalize ((((((((w4.setCell ⟨w.heap.size + 1 + 1, 0, none⟩ (.bool true)).setCell ⟨w.heap.size + 1 + 1, 1, none⟩ (.int .i64 t)).setCell ⟨w.heap.size + 1 + 1, 2, none⟩ (.int .i64 q)).setCell ⟨w.heap.size + 1 + 1, 3, none⟩ (.int .i64 p)).setCell ⟨w.heap.size + 1 + 1, 4, none⟩ (.slice az xs.length cz)).setCell ⟨w.heap.size + 1 + 1, 5, none⟩ (.int .i64 k)).setCell ⟨w.heap.size + 1 + 1, 6, none⟩ (.int .i64 lt)).setCell ⟨w.heap.size + 1 + 1, 7, none⟩ (.int .i64 la)).setCell ⟨w.heap.size + 1 + 1, 8, none⟩ (.slice al ld.length kl) = W9 at *
  clear r0 r1 r2 r3 r4 r5 r6 r7 r8 z0 z1 z2 z3 z4 z5 z6 z7 z8 p0 p1 p2 q0 q1 q2 q3 p0' p1' p2' q0' q1' q2' q3'
  obtain ⟨r0, r1, r2, r3, r4, r5, r6, r7, r8⟩ : W9.cell? ⟨(w.heap.size + 1 + 1), 0, none⟩ = some (.bool true) ∧ W9.cell? ⟨(w.heap.size + 1 + 1), 1, none⟩ = some (.int .i64 t) ∧ W9.cell? ⟨(w.heap.size + 1 + 1), 2, none⟩ = some (.int .i64 q) ∧ W9.cell? ⟨(w.heap.size + 1 + 1), 3, none⟩ = some (.int .i64 p) ∧ W9.cell? ⟨(w.heap.size + 1 + 1), 4, none⟩ = some (.slice az xs.length cz) ∧ W9.cell? ⟨(w.heap.size + 1 + 1), 5, none⟩ = some (.int .i64 k) ∧ W9.cell? ⟨(w.heap.size + 1 + 1), 6, none⟩ = some (.int .i64 lt) ∧ W9.cell? ⟨(w.heap.size + 1 + 1), 7, none⟩ = some (.int .i64 la) ∧ W9.cell? ⟨(w.heap.size + 1 + 1), 8, none⟩ = some (.slice al ld.length kl) := ⟨hk9.cell 0, hk9.cell 1, hk9.cell 2, hk9.cell 3, hk9.cell 4, hk9.cell 5, hk9.cell 6, hk9.cell 7, hk9.cell 8⟩
  go_wp2_with fail
  exact bodyPost_ret (v := .tuple #[.agg #[.bool true, .int .i64 t, .int .i64 q, .int .i64 p, .slice az xs.length cz, .int .i64 k, .int .i64 lt, .int .i64 la, .slice al ld.length kl], .int .i64 0]) (by simp [results, Try.results34, go_sem, r0, r1, r2, r3, r4, r5, r6, r7, r8]) rfl ⟨_, _, rfl, hx9, hd9, hl9⟩

theorem rtake_w (o : Bool) (ct co cp l lt la t q p k : Int) {uc ul ux : Value} {cd ld xs : List UInt8} {w : World} {X : Nat → Prop} (hX : ∀ b, X b → b < w.heap.size) (hc : Av X (fun W => Sl eb W uc cd) w) (hl : Av X (fun W => Sl eb W ul ld) w) (hx : Sl eb w ux xs) (hxs : xs.length ≤ 1000) :
    Calls Try.prog 34 #[.agg #[.bool o, .int .i64 ct, .int .i64 co, .int .i64 cp, uc, .int .i64 l, .int .i64 lt, .int .i64 la, ul], .agg #[.int .i64 t, .int .i64 q, .int .i64 p, ux], .int .i64 k] w (RetTake w X (Dk.take (o, (ct, co, cp, cd), l, (lt, la, ld)) (t, q, p, xs) k)) := by
  cases o with
  | true =>
    by_cases h1 : t < ct
    · rw [show Dk.take (true, (ct, co, cp, cd), l, (lt, la, ld)) (t, q, p, xs) k = (Dk.zch, 19) by unfold Dk.take Dk.top; simp [h1]]
      exact take_dup_t ct co cp l lt la t q p k hX hc hl hx hxs h1
    · by_cases h2 : ct < t
      · rw [show Dk.take (true, (ct, co, cp, cd), l, (lt, la, ld)) (t, q, p, xs) k = (Dk.zch, 12) by unfold Dk.take Dk.top; simp [h1, h2]]
        exact take_busy ct co cp l lt la t q p k hX hc hl hx hxs h2
      · obtain rfl : ct = t := by omega
        rw [show Dk.take (true, (ct, co, cp, cd), l, (lt, la, ld)) (ct, q, p, xs) k = ((true, (ct, co, cp, cd), l, (lt, la, ld)), 0) by unfold Dk.take Dk.top; simp]
        exact take_same ct co cp l lt la q p k hX hc hl hx hxs
  | false =>
    by_cases h1 : t < lt
    · rw [show Dk.take (false, (ct, co, cp, cd), l, (lt, la, ld)) (t, q, p, xs) k = (Dk.zch, 19) by unfold Dk.take Dk.top; simp [h1]]
      exact take_dup_f ct co cp l lt la t q p k hX hc hl hx hxs h1
    · by_cases h2 : lt < t
      · rw [show Dk.take (false, (ct, co, cp, cd), l, (lt, la, ld)) (t, q, p, xs) k = ((true, (t, q, p, xs), k, (lt, la, ld)), 0) by unfold Dk.take Dk.top; simp [h1, show ¬ t = lt by omega]]
        exact take_new ct co cp l lt la t q p k hX hc hl hx hxs h2
      · obtain rfl : lt = t := by omega
        rw [show Dk.take (false, (ct, co, cp, cd), l, (lt, la, ld)) (lt, q, p, xs) k = ((true, (lt, 0, 0, []), 1, (lt, la, ld)), 0) by unfold Dk.take Dk.top; simp]
        exact take_again ct co cp l lt la q p k hX hc hl hx hxs
end Go.Proofs.Yteeoonoccklhmaa
