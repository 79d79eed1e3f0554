/-
  The walk of IrqAgain.
-/
import Derived.Test.YtehniblcodkmaaaArgs
import Derived.Test.YtehniblcodkmaaaPlain
namespace Go.Proofs.Ytehniblcodkmaaa
open Go.RowKit

/-- The box of an interrupt, in every later world. -/
theorem Bk.low4 {w W : World} {b : Nat} {T : TypeId} {d t n : Int} {u : Value} (h : Bk w b T [.int .i64 d, .int .i64 t, .int .i64 n, u]) (hb : Below w.heap.size w W) : Bk W b T [.int .i64 d, .int .i64 t, .int .i64 n, u] := h.below hb h.lt

set_option maxRecDepth 20000 in
set_option maxHeartbeats 3200000 in
theorem lagain_w {w : World} {v0 v1 : Value} (h0 : IsLine w v0) (h1 : IsI64 w v1) :
    Calls Try.prog 4 #[v0, v1] w fun e w' => e = .returned (.bool true) ∧ Below w.heap.size w w' := by
  obtain ⟨⟨d, t, n, xs⟩, ⟨u, rfl, hs⟩, -⟩ := h0
  obtain ⟨z, rfl, -⟩ := h1
  simp only at hs ⊢
  obtain ⟨a, c, rfl, -⟩ := id hs
  have HS := Lib.hid hs
  clear hs
  have HLV : Hid (∀ n W, Below w.heap.size w W → Lv W (.agg #[.int .i64 d, .int .i64 t, .int .i64 n, .slice a xs.length c]) (d, t, n, xs)) := fun n W hW => ⟨_, rfl, HS.out.below hW (Nat.le_refl _)⟩
  have HP : Hid (∀ W, Below w.heap.size w W → Calls Try.prog 19 #[.agg #[.int .i64 d, .int .i64 t, .int .i64 n, .slice a xs.length c]] W fun e w' => e = .returned (.bool (Iq.proper (d, t, n, xs))) ∧ Below W.heap.size W w') := fun W hW => rproper_w (HLV.out n W hW)
  have hK0 : Bk (w.alloc (.cells #[.int .i64 d, .int .i64 t, .int .i64 n, .slice a xs.length c] 37 (0, 0))) w.heap.size 37 [.int .i64 d, .int .i64 t, .int .i64 n, .slice a xs.length c] := Bk.new w _ [_, _, _, _]
  have hlow0 : Below w.heap.size w (w.alloc (.cells #[.int .i64 d, .int .i64 t, .int .i64 n, .slice a xs.length c] 37 (0, 0))) := low_alloc _ _
  cases hp : Iq.proper (d, t, n, xs) with
  | false =>
    rw [hp] at HP
    clear hp
    go_enter Try.func4, Try.ntmps4
    go_wp2_with (first
      | (go_at_call 19; refine (HP.out _ (stepAny hlow0 hb1)).mono ?_; rintro e w2 ⟨rfl, hb2⟩; have tok := True.intro)
      | (go_at_call 10; have _t := tok; refine (awake_w w2).mono ?_; rintro e w3 ⟨rfl, hb3⟩)
      | (go_at_call 10; refine (awake_w _).mono ?_; rintro e w1 ⟨rfl, hb1⟩; obtain ⟨p0, p1, p2, p3, -⟩ := (hK0.low4 hb1).box4))
    go_ret
    exact ⟨rfl, stepAny (stepAny (stepAny hlow0 hb1) hb2) hb3⟩
  | true =>
    rw [hp] at HP
    have hpz : Iq.proper (d, t, z, xs) = true := by rw [← hp]; rfl
    have hvn : Iq.valid (Iq.nomask, []) = true := Iq.valid_nil rfl
    have hv1 : Iq.valid (Iq.nomask, [(d, t, n, xs)]) = true := Iq.valid_one rfl hp
    have hr1 : Iq.raise ([false, false, false, false, false], []) (d, t, n, xs) = (([false, false, false, false, false], [(d, t, n, xs)]), 0) := Iq.raise_ok hvn hp rfl (by simp)
    have hr2 : Iq.raise ([false, false, false, false, false], [(d, t, n, xs)]) (d, t, z, xs) = (([false, false, false, false, false], []), 19) := Iq.raise_dup hv1 hpz (by unfold Iq.pend; simp [Iq.twin])
    have hr3 : Iq.take ([false, false, false, false, false], [(d, t, n, xs)]) = (([false, false, false, false, false], []), (d, t, n, xs), true) := Iq.take_first hv1 (Iq.free_nomask _)
    have hr4 : Iq.raise ([false, false, false, false, false], []) (d, t, z, xs) = (([false, false, false, false, false], [(d, t, z, xs)]), 0) := Iq.raise_ok hvn hpz rfl (by simp)
    have H1 : Hid (∀ W, Below w.heap.size w W → Calls Try.prog 20 #[.agg #[.bool false, .bool false, .bool false, .bool false, .bool false, .slice none 0 0], .agg #[.int .i64 d, .int .i64 t, .int .i64 n, .slice a xs.length c]] W fun e w' => ∃ a k, e = .returned (.tuple #[.agg #[.bool false, .bool false, .bool false, .bool false, .bool false, .slice a 1 k], .int .i64 0]) ∧ LpF W.heap.size w' (.slice a 1 k) [(d, t, n, xs)] ∧ Below W.heap.size W w') := fun W hW => raise_o Lp.nil (HLV.out n W hW) hr1
    have H2 : Hid (∀ W a1 k1, Below w.heap.size w W → Lp W (.slice a1 1 k1) [(d, t, n, xs)] → Calls Try.prog 20 #[.agg #[.bool false, .bool false, .bool false, .bool false, .bool false, .slice a1 1 k1], .agg #[.int .i64 d, .int .i64 t, .int .i64 z, .slice a xs.length c]] W fun e w' => ∃ a k, e = .returned (.tuple #[.agg #[.bool false, .bool false, .bool false, .bool false, .bool false, .slice a 0 k], .int .i64 19]) ∧ LpF W.heap.size w' (.slice a 0 k) [] ∧ Below W.heap.size W w') := fun W a1 k1 hW hl => raise_o hl (HLV.out z W hW) hr2
    have H3 : Hid (∀ W a1 k1, Lp W (.slice a1 1 k1) [(d, t, n, xs)] → Calls Try.prog 15 #[.agg #[.bool false, .bool false, .bool false, .bool false, .bool false, .slice a1 1 k1]] W fun e w' => ∃ a k a2 k2, e = .returned (.tuple #[.agg #[.bool false, .bool false, .bool false, .bool false, .bool false, .slice a 0 k], .agg #[.int .i64 d, .int .i64 t, .int .i64 n, .slice a2 xs.length k2], .bool true]) ∧ LpF W.heap.size w' (.slice a 0 k) [] ∧ LvF W.heap.size w' (.slice a2 xs.length k2) xs ∧ Below W.heap.size W w') := fun W a1 k1 hl => take_o hl hr3
    have H4 : Hid (∀ W a1 k1, Below w.heap.size w W → Lp W (.slice a1 0 k1) [] → Calls Try.prog 20 #[.agg #[.bool false, .bool false, .bool false, .bool false, .bool false, .slice a1 0 k1], .agg #[.int .i64 d, .int .i64 t, .int .i64 z, .slice a xs.length c]] W fun e w' => ∃ a k, e = .returned (.tuple #[.agg #[.bool false, .bool false, .bool false, .bool false, .bool false, .slice a 1 k], .int .i64 0]) ∧ LpF W.heap.size w' (.slice a 1 k) [(d, t, z, xs)] ∧ Below W.heap.size W w') := fun W a1 k1 hW hl => raise_o hl (HLV.out z W hW) hr4
    clear hp hpz hvn hv1 hr1 hr2 hr3 hr4
    go_enter Try.func4, Try.ntmps4
    go_upto_region 5 with (first
      | (go_at_call 19; refine (HP.out _ (stepAny hlow0 hb1)).mono ?_; rintro e w2 ⟨rfl, hb2⟩; obtain ⟨p02, p12, p22, p32, -⟩ := ((hK0.low4 hb1).low4 hb2).box4)
      | (go_at_call 10; refine (awake_w _).mono ?_; rintro e w1 ⟨rfl, hb1⟩; obtain ⟨p0, p1, p2, p3, -⟩ := (hK0.low4 hb1).box4)
      | (go_at_call 20; refine (H1.out _ (stepAny (stepAny hlow0 hb1) hb2)).mono ?_; rintro e w3 ⟨a3, k3, rfl, hl3, hb3⟩; have hK3 := ((hK0.low4 hb1).low4 hb2).low4 hb3; have z32 := hK3.frozen 2; obtain ⟨p03, p13, p23, p33, -⟩ := hK3.box4; have hs3 := hK3.lt))
    have hB3 := hlow0.trans (((hb1.mono hlow0.size).trans (hb2.mono (by have := hb1.size; have := hlow0.size; omega))))
    have hsz3 := hb3.size
    have hs2 := ((hK0.low4 hb1).low4 hb2).lt
    have hlow3 := stepAny (stepAny (stepAny hlow0 hb1) hb2) hb3
    obtain ⟨W5, hW5⟩ : ∃ W5, W5 = (w3.setCell ⟨w.heap.size, 2, none⟩ (.int .i64 z)).alloc (.cells #[.bool false, .bool false, .bool false, .bool false, .bool false, .slice a3 1 k3] 30 (0, 0)) := ⟨_, rfl⟩
    have hX5 : Bk W5 w.heap.size 37 [.int .i64 d, .int .i64 t, .int .i64 z, .slice a xs.length c] := hW5 ▸ (hK3.set 2 (.int .i64 z)).alloc _
    have hK5 : Bk W5 w3.heap.size 30 (stC false false false false false (.slice a3 1 k3)) := hW5 ▸ Bk.newAt _ _ (stC false false false false false (.slice a3 1 k3)) (by simp)
    have hL5 : Lp W5 (.slice a3 1 k3) [(d, t, n, xs)] := hW5 ▸ (hl3.set hs2 (.int .i64 z)).lp.below (low_alloc _ _) (Nat.le_refl _)
    have hlow5 : Below w.heap.size w W5 := hW5 ▸ (hlow3.setCell (by simp) _).alloc (by simp; omega) _
    rw [← hW5]
    clear hW5 hK3 hl3 hB3 hsz3 hlow3 z32 p03 p13 p23 p33 p0 p1 p2 p3 p02 p12 p22 p32 hb1 hb2 hb3 HP H1
    have hbw : w.heap.size < w3.heap.size := hs3
    generalize w3.heap.size = b at *
    have HL5 := Lib.hid hL5
    obtain ⟨p0, p1, p2, p3, -⟩ := hX5.box4
    obtain ⟨q0, q1, q2, q3, q4, q5, -⟩ := hK5.box
    go_upto_region 6 with (go_at_call 20; (with_reducible refine (H2.out _ _ _ hlow5 HL5.out).mono ?_); rintro e w6 ⟨a6, k6, rfl, -, hb6⟩)
    have hsz6 := hb6.size
    obtain ⟨W6, hW6⟩ : ∃ W6, W6 = w6.alloc (.cells #[.bool false, .bool false, .bool false, .bool false, .bool false, .slice a6 0 k6] 30 (0, 0)) := ⟨_, rfl⟩
    have hb56 : Below W5.heap.size W5 W6 := hW6 ▸ hb6.alloc hb6.size _
    rw [← hW6]
    have hX6 := hX5.low4 hb56
    have hK6 := hK5.below hb56 hK5.lt
    have hL6 := hL5.below hb56 (Nat.le_refl _)
    have hlow6 := stepAny hlow5 hb56
    clear hW6 hX5 hK5 hL5 HL5 hlow5 hb6 hb56 hsz6 p0 p1 p2 p3 q0 q1 q2 q3 q4 q5 H2 hs2 hs3
    have HL6 := Lib.hid hL6
    obtain ⟨q0, q1, q2, q3, q4, q5, -⟩ := hK6.box
    go_upto_region 7 with (go_at_call 15; (with_reducible refine (H3.out _ _ _ HL6.out).mono ?_); rintro e w7 ⟨a7, k7, a8, k8, rfl, hl7, hs7, hb7⟩; have hK7 := hK6.below hb7 hK6.lt; have hs7 := hK7.lt; obtain ⟨r0, r1, r2, r3, r4, r5, z0, z1, z2, z3, z4, z5⟩ := hK7.box)
    have hX7 := hX6.low4 hb7
    obtain ⟨W8, hW8⟩ : ∃ W8, W8 = (((((w7.setCell ⟨b, 0, none⟩ (.bool false)).setCell ⟨b, 1, none⟩ (.bool false)).setCell ⟨b, 2, none⟩ (.bool false)).setCell ⟨b, 3, none⟩ (.bool false)).setCell ⟨b, 4, none⟩ (.bool false)).setCell ⟨b, 5, none⟩ (.slice a7 0 k7) := ⟨_, rfl⟩
    rw [← hW8]
    obtain ⟨hK8, hL8, hlow8, hkp8⟩ := box_set (w := w) hK7 hl7 hK6.lt (stepAny hlow6 hb7) (by omega) W8 hW8
    have hX8 := hX7.keep (hkp8 _ (by omega))
    obtain ⟨W9, hW9⟩ : ∃ W9, W9 = W8.alloc (.cells #[.int .i64 d, .int .i64 t, .int .i64 n, .slice a8 xs.length k8] 38 (0, 0)) := ⟨_, rfl⟩
    have hb89 : Below W8.heap.size W8 W9 := hW9 ▸ low_alloc _ _
    rw [← hW9]
    have hX9 := hX8.low4 hb89
    have hK9 := hK8.below hb89 hK8.lt
    have hL9 := hL8.below hb89 (Nat.le_refl _)
    have hlow9 := stepAny hlow8 hb89
    clear hW8 hW9 hX6 hK6 hL6 HL6 hlow6 hX7 hK7 hb7 hl7 hs7 hX8 hK8 hL8 hlow8 hkp8 hb89 q0 q1 q2 q3 q4 q5 r0 r1 r2 r3 r4 r5 z0 z1 z2 z3 z4 z5 H3
    have HL9 := Lib.hid hL9
    obtain ⟨p0, p1, p2, p3, -⟩ := hX9.box4
    obtain ⟨q0, q1, q2, q3, q4, q5, -⟩ := hK9.box
    go_upto_region 8 with (go_at_call 20; (with_reducible refine (H4.out _ _ _ hlow9 HL9.out).mono ?_); rintro e w10 ⟨a10, k10, rfl, hl10, hb10⟩; have hK10 := hK9.below hb10 hK9.lt; obtain ⟨r0, r1, r2, r3, r4, r5, z0, z1, z2, z3, z4, z5⟩ := hK10.box)
    obtain ⟨W11, hW11⟩ : ∃ W11, W11 = (((((w10.setCell ⟨b, 0, none⟩ (.bool false)).setCell ⟨b, 1, none⟩ (.bool false)).setCell ⟨b, 2, none⟩ (.bool false)).setCell ⟨b, 3, none⟩ (.bool false)).setCell ⟨b, 4, none⟩ (.bool false)).setCell ⟨b, 5, none⟩ (.slice a10 1 k10) := ⟨_, rfl⟩
    rw [← hW11]
    obtain ⟨hK11, hL11, hlow11, -⟩ := box_set (w := w) hK10 hl10 hK9.lt (stepAny hlow9 hb10) (by omega) W11 hW11
    obtain ⟨aa, cc, e11, -, -, -, hel⟩ := hL11.open
    injection e11 with e1 e2 e3
    subst e1 e3
    obtain ⟨bb, off, u11, rfl, hbb, h4, -⟩ := hel 0 (by simp)
    have c2 := h4.c2
    simp only [Nat.zero_mul, Nat.add_zero, List.getElem_cons_zero] at c2
    clear hW11 hX9 hK9 hL9 HL9 hlow9 hb10 hK10 hl10 p0 p1 p2 p3 q0 q1 q2 q3 q4 q5 r0 r1 r2 r3 r4 r5 z0 z1 z2 z3 z4 z5 hel h4 hL11 H4 e2
    obtain ⟨q0, q1, q2, q3, q4, q5, -⟩ := hK11.box
    go_wp2
    go_ret
    exact ⟨rfl, hlow11⟩
end Go.Proofs.Ytehniblcodkmaaa
