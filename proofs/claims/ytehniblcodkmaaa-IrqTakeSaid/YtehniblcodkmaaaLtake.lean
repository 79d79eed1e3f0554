/-
  The walk of IrqTake.
-/
import Derived.Test.YtehniblcodkmaaaArgs
import Derived.Test.YtehniblcodkmaaaRtk
import Derived.Test.YtehniblcodkmaaaPlain2
namespace Go.Proofs.Ytehniblcodkmaaa
open Go.RowKit

theorem mask_len {m : List Bool} {l : List Iq.Ln} {n : Int} {on : Bool} (h : m.length = 5) : (Iq.mask (m, l) n on).1.1.length = 5 := by
  unfold Iq.mask
  split
  · rfl
  · split
    · rfl
    · simp [h]
theorem list5 {m : List Bool} (h : m.length = 5) : ∃ a b c d e, m = [a, b, c, d, e] := by
  match m, h with
  | [a, b, c, d, e], _ => exact ⟨_, _, _, _, _, rfl⟩
theorem valid_zst : Iq.valid Iq.zst = true := rfl
theorem valid_take {s : Iq.St} : Iq.valid (Iq.take s).1 = true := by
  unfold Iq.take
  split
  · rfl
  · rename_i h
    have hv := Iq.valid_iff.1 (by simpa using h : Iq.valid s = true)
    split
    · rw [Iq.valid_iff]
      exact ⟨Iq.okAll_sub hv.1 (List.eraseIdx_sublist _ _), Nat.le_trans (List.eraseIdx_sublist _ _).length_le hv.2.1, hv.2.2⟩
    · rfl
theorem valid_mask {s : Iq.St} {n : Int} {on : Bool} : Iq.valid (Iq.mask s n on).1 = true := by
  unfold Iq.mask
  split
  · rfl
  · rename_i h
    have hv := Iq.valid_iff.1 (by simpa using h : Iq.valid s = true)
    split
    · rfl
    · rename_i hd
      have hd' : Iq.device n = true := by simpa using hd
      unfold Iq.device at hd'
      simp at hd'
      rw [Iq.valid_iff]
      refine ⟨hv.1, hv.2.1, ?_⟩
      have := hv.2.2
      simp only [List.getD_eq_getElem?_getD] at this ⊢
      rw [List.getElem?_set_ne (by omega)]
      exact this
theorem take_masks {s : Iq.St} (h : s.1.length = 5) : (Iq.take s).1.1.length = 5 := by
  unfold Iq.take
  split
  · rfl
  · split
    · exact h
    · rfl

section
variable {m0 m1 m2 m3 m4 n0 n1 n2 n3 n4 ok : Bool} {u : Value} {ls l : List Iq.Ln} {w : World} {c d t z : Int} {ys : List UInt8}
theorem rtake_o (h : Lp w u ls) (hr : Iq.take ([m0, m1, m2, m3, m4], ls) = (([n0, n1, n2, n3, n4], l), (d, t, z, ys), ok)) :
    Calls Try.prog 21 #[.agg #[.bool m0, .bool m1, .bool m2, .bool m3, .bool m4, u]] w fun e w' => ∃ a k a2 k2, e = .returned (.tuple #[.agg #[.bool n0, .bool n1, .bool n2, .bool n3, .bool n4, .slice a l.length k], .agg #[.int .i64 d, .int .i64 t, .int .i64 z, .slice a2 ys.length k2], .bool ok]) ∧ Lp w' (.slice a l.length k) l ∧ Sl eb w' (.slice a2 ys.length k2) ys ∧ Below w.heap.size w w' :=
  (rtake_w h).mono fun e w' h => by
    rw [hr] at h
    obtain ⟨k0, k1, k2, k3, k4, v', u', hm, rfl, hl, hs, hb⟩ := h
    simp only [List.cons.injEq, and_true] at hm
    obtain ⟨rfl, rfl, rfl, rfl, rfl⟩ := hm
    obtain ⟨a, k, rfl⟩ := hl.form
    obtain ⟨a2, k2, rfl, -⟩ := id hs
    exact ⟨a, k, a2, k2, rfl, hl, hs, hb⟩
theorem RetSt.open {e : Ending} {w' : World} {r : Iq.St × Int} (h : RetSt w r e w') (hr : r = (([n0, n1, n2, n3, n4], l), c)) :
    ∃ a k, e = .returned (.tuple #[.agg #[.bool n0, .bool n1, .bool n2, .bool n3, .bool n4, .slice a l.length k], .int .i64 c]) ∧ Lp w' (.slice a l.length k) l ∧ Below w.heap.size w w' := by
  subst hr
  obtain ⟨k0, k1, k2, k3, k4, v', hm, rfl, hl, hb⟩ := h
  simp only [List.cons.injEq, and_true] at hm
  obtain ⟨rfl, rfl, rfl, rfl, rfl⟩ := hm
  obtain ⟨a, k, rfl⟩ := hl.form
  exact ⟨a, k, rfl, hl, hb⟩
end

set_option maxRecDepth 100000 in
set_option maxHeartbeats 8000000 in
theorem ltake_w {w : World} {v0 v1 v2 : Value} (h0 : IsState w v0) (h1 : IsI64 w v1) (h2 : IsBool w v2) :
    Calls Try.prog 6 #[v0, v1, v2] w fun e w' => e = .returned (.bool true) ∧ Below w.heap.size w w' := by
  obtain ⟨m0, m1, m2, m3, m4, u, ls, rfl, hlp, -⟩ := h0
  obtain ⟨n, rfl, -⟩ := h1
  obtain ⟨on, rfl⟩ := h2
  obtain ⟨a, cap, rfl, hc, hcm, hna, hel⟩ := hlp.open
  have HLP := Lib.hid hlp
  clear hlp hel
  unfold maxLen at hcm
  have HF : Hid (∀ W, Below w.heap.size w W → Calls Try.prog 11 #[.agg #[.bool m0, .bool m1, .bool m2, .bool m3, .bool m4, .slice a ls.length cap]] W fun e w' => e = .returned (.bool (Iq.few ([m0, m1, m2, m3, m4], ls))) ∧ Below W.heap.size W w') := fun W hW => rfew_w (HLP.out.below hW (Nat.le_refl _)) _
  have hK0 : Bk (w.alloc (.cells #[.bool m0, .bool m1, .bool m2, .bool m3, .bool m4, .slice a ls.length cap] 25 (0, 0))) w.heap.size 25 (stC m0 m1 m2 m3 m4 (.slice a ls.length cap)) := Bk.new w _ (stC m0 m1 m2 m3 m4 (.slice a ls.length cap))
  have hlow0 : Below w.heap.size w (w.alloc (.cells #[.bool m0, .bool m1, .bool m2, .bool m3, .bool m4, .slice a ls.length cap] 25 (0, 0))) := low_alloc _ _
  cases hfew : Iq.few ([m0, m1, m2, m3, m4], ls) with
  | false =>
    rw [hfew] at HF
    clear hfew
    go_enter Try.func6, Try.ntmps6
    go_wp2_with (first
      | (go_at_call 11; refine (HF.out _ (stepAny hlow0 hb1)).mono ?_; rintro e w2 ⟨rfl, hb2⟩; have tok := True.intro)
      | (go_at_call 10; have _t := tok; refine (awake_w w2).mono ?_; rintro e w3 ⟨rfl, hb3⟩)
      | (go_at_call 10; refine (awake_w _).mono ?_; rintro e w1 ⟨rfl, hb1⟩; obtain ⟨p0, p1, p2, p3, p4, p5, -⟩ := (hK0.below hb1 hK0.lt).box))
    go_ret
    exact ⟨rfl, stepAny (stepAny (stepAny hlow0 hb1) hb2) hb3⟩
  | true =>
    rw [hfew] at HF
    have h40 : ls.length ≤ 40 := (Iq.few_iff.1 hfew).2
    obtain ⟨⟨mk, l⟩, ⟨d, t, z, ys⟩, ok, htk⟩ : ∃ (s : Iq.St) (x : Iq.Ln) (ok : Bool), Iq.take ([m0, m1, m2, m3, m4], ls) = (s, x, ok) := ⟨_, _, _, rfl⟩
    obtain ⟨k0, k1, k2, k3, k4, rfl⟩ := list5 (m := mk) (by have := take_masks (s := ([m0, m1, m2, m3, m4], ls)) rfl; rw [htk] at this; exact this)
    obtain ⟨⟨mj, l2⟩, cc, hmk⟩ : ∃ (s : Iq.St) (c : Int), Iq.mask ([m0, m1, m2, m3, m4], ls) n on = (s, c) := ⟨_, _, rfl⟩
    obtain ⟨j0, j1, j2, j3, j4, rfl⟩ := list5 (m := mj) (by have := mask_len (m := [m0, m1, m2, m3, m4]) (l := ls) (n := n) (on := on) rfl; rw [hmk] at this; exact this)
    have hv1 : Iq.valid ([k0, k1, k2, k3, k4], l) = true := by have := valid_take (s := ([m0, m1, m2, m3, m4], ls)); rw [htk] at this; exact this
    have hv2 : Iq.valid ([j0, j1, j2, j3, j4], l2) = true := by have := valid_mask (s := ([m0, m1, m2, m3, m4], ls)) (n := n) (on := on); rw [hmk] at this; exact this
    have hl1 : l.length ≤ 1000 := by have := (Iq.valid_iff.1 hv1).2.1; simp only at this; omega
    have hl2 : l2.length ≤ 1000 := by have := (Iq.valid_iff.1 hv2).2.1; simp only at this; omega
    have HTK := Lib.hid htk
    have HMK := Lib.hid hmk
    have HV1 := Lib.hid hv1
    have HV2 := Lib.hid hv2
    generalize hdr : Iq.driver n = dr at *
    obtain ⟨dn, dy⟩ := dr
    have HD : Hid (∀ W, Calls Try.prog 23 #[.int .i64 n] W fun e w' => e = .returned (.tuple #[.int .i64 dn, .bool dy]) ∧ W = w') := fun W => by have := driver_w n W; rw [hdr] at this; exact this
    have HRD : Hid (∀ W, Calls Try.prog 24 #[.int .i64 n] W fun e w' => e = .returned (.tuple #[.int .i64 dn, .bool dy]) ∧ W = w') := fun W => by have := rdriver_w n W; rw [hdr] at this; exact this
    clear htk hmk hv1 hv2 hfew hdr
    go_enter Try.func6, Try.ntmps6
    go_upto_region 4 with (first
      | (go_at_call 11; refine (HF.out _ (stepAny hlow0 hb1)).mono ?_; rintro e w2 ⟨rfl, hb2⟩; have hK2 := (hK0.below hb1 hK0.lt).below hb2 (hK0.below hb1 hK0.lt).lt; obtain ⟨q0, q1, q2, q3, q4, q5, -⟩ := hK2.box; have hlow2 := stepAny (stepAny hlow0 hb1) hb2)
      | (go_at_call 13; refine (to_w (HLP.out.below hlow2 (Nat.le_refl _)) (by omega)).mono ?_; rintro e w3 ⟨a3, c3, rfl, hl3, hb3⟩; have hK3 := hK2.below hb3 hK2.lt; have hlow3 := stepAny hlow2 hb3)
      | (go_at_call 15; (with_reducible refine (take_o hl3 HTK.out).mono ?_); rintro e w4 ⟨a5, c5, x5, y5, rfl, hl4, hv4, hb4⟩)
      | (go_at_call 10; refine (awake_w _).mono ?_; rintro e w1 ⟨rfl, hb1⟩; obtain ⟨p0, p1, p2, p3, p4, p5, -⟩ := (hK0.below hb1 hK0.lt).box))
    clear p0 p1 p2 p3 p4 p5 q0 q1 q2 q3 q4 q5
    have hK4 := hK3.below hb4 hK3.lt
    have hlow4 := stepAny hlow3 hb4
    have hX : Below w4.heap.size w4 ((w4.alloc (.cells #[.bool k0, .bool k1, .bool k2, .bool k3, .bool k4, .slice a5 l.length c5] 30 (0, 0))).alloc (.cells #[.int .i64 d, .int .i64 t, .int .i64 z, .slice x5 ys.length y5] 38 (0, 0))) := (low_alloc w4 _).alloc (by simp) _
    have k7 : Bk ((w4.alloc (.cells #[.bool k0, .bool k1, .bool k2, .bool k3, .bool k4, .slice a5 l.length c5] 30 (0, 0))).alloc (.cells #[.int .i64 d, .int .i64 t, .int .i64 z, .slice x5 ys.length y5] 38 (0, 0))) w4.heap.size 30 (stC k0 k1 k2 k3 k4 (.slice a5 l.length c5)) := (Bk.new w4 _ (stC k0 k1 k2 k3 k4 (.slice a5 l.length c5))).alloc _
    have k8 : Bk ((w4.alloc (.cells #[.bool k0, .bool k1, .bool k2, .bool k3, .bool k4, .slice a5 l.length c5] 30 (0, 0))).alloc (.cells #[.int .i64 d, .int .i64 t, .int .i64 z, .slice x5 ys.length y5] 38 (0, 0))) (w4.heap.size + 1) 38 [.int .i64 d, .int .i64 t, .int .i64 z, .slice x5 ys.length y5] := Bk.newAt _ _ [_, _, _, _] (by simp)
    have hK5 := hK4.below hX hK4.lt
    have hlow5 := stepAny hlow4 hX
    have hl5 : Lp _ _ _ := hl4.lp.below hX (Nat.le_refl _)
    have hv5 := hv4.1.below hX (Nat.le_refl _)
    generalize (w4.alloc (.cells #[.bool k0, .bool k1, .bool k2, .bool k3, .bool k4, .slice a5 l.length c5] 30 (0, 0))).alloc (.cells #[.int .i64 d, .int .i64 t, .int .i64 z, .slice x5 ys.length y5] 38 (0, 0)) = W5 at *
    generalize w4.heap.size + 1 = b8 at *
    generalize w4.heap.size = b7 at *
    clear hl4 hv4 hX hK4 hlow4 hb4 hK3 hlow3 hb3 hl3 hb2 hb1 hK2 hlow2 hK0 hlow0 HF
    obtain ⟨p0, p1, p2, p3, p4, p5, -⟩ := hK5.box
    go_upto_region 5 with (go_at_call 21; (with_reducible refine (rtake_o (HLP.out.below hlow5 (Nat.le_refl _)) HTK.out).mono ?_); rintro e w4 ⟨a6, c6, x6, y6, rfl, hl6, hv6, hb4⟩)
    clear p0 p1 p2 p3 p4 p5
    have hX : Below w4.heap.size w4 ((w4.alloc (.cells #[.bool k0, .bool k1, .bool k2, .bool k3, .bool k4, .slice a6 l.length c6] 25 (0, 0))).alloc (.cells #[.int .i64 d, .int .i64 t, .int .i64 z, .slice x6 ys.length y6] 37 (0, 0))) := (low_alloc w4 _).alloc (by simp) _
    have hY := stepAny hb4 hX
    have k10 : Bk ((w4.alloc (.cells #[.bool k0, .bool k1, .bool k2, .bool k3, .bool k4, .slice a6 l.length c6] 25 (0, 0))).alloc (.cells #[.int .i64 d, .int .i64 t, .int .i64 z, .slice x6 ys.length y6] 37 (0, 0))) w4.heap.size 25 (stC k0 k1 k2 k3 k4 (.slice a6 l.length c6)) := (Bk.new w4 _ (stC k0 k1 k2 k3 k4 (.slice a6 l.length c6))).alloc _
    have k11 : Bk ((w4.alloc (.cells #[.bool k0, .bool k1, .bool k2, .bool k3, .bool k4, .slice a6 l.length c6] 25 (0, 0))).alloc (.cells #[.int .i64 d, .int .i64 t, .int .i64 z, .slice x6 ys.length y6] 37 (0, 0))) (w4.heap.size + 1) 37 [.int .i64 d, .int .i64 t, .int .i64 z, .slice x6 ys.length y6] := Bk.newAt _ _ [_, _, _, _] (by simp)
    have hK6 := hK5.below hY hK5.lt
    have k7' := k7.below hY k7.lt
    have k8' := k8.below hY k8.lt
    have hlow6 := stepAny hlow5 hY
    have hl5' := hl5.below hY (Nat.le_refl _)
    have hv5' := hv5.below hY (Nat.le_refl _)
    have hl6' := hl6.below hX (Nat.le_refl _)
    have hv6' := hv6.below hX (Nat.le_refl _)
    generalize (w4.alloc (.cells #[.bool k0, .bool k1, .bool k2, .bool k3, .bool k4, .slice a6 l.length c6] 25 (0, 0))).alloc (.cells #[.int .i64 d, .int .i64 t, .int .i64 z, .slice x6 ys.length y6] 37 (0, 0)) = W6 at *
    generalize w4.heap.size + 1 = b11 at *
    generalize w4.heap.size = b10 at *
    clear hX hY hK5 hlow5 hb4 hl6 hv6 k7 k8 hl5 hv5
    obtain ⟨p0, p1, p2, p3, p4, p5, -⟩ := hK6.box
    go_upto_region 6 with (first
      | (go_at_call 13; refine (to_w (HLP.out.below hlow6 (Nat.le_refl _)) (by omega)).mono ?_; rintro e w3 ⟨a3, c3, rfl, hl3, hb3⟩)
      | (go_at_call 14; (with_reducible refine (mask_o n on hl3 HMK.out).mono ?_); rintro e w4 ⟨a7, c7, rfl, hl4, hb4⟩))
    clear p0 p1 p2 p3 p4 p5
    have hX : Below w4.heap.size w4 (w4.alloc (.cells #[.bool j0, .bool j1, .bool j2, .bool j3, .bool j4, .slice a7 l2.length c7] 30 (0, 0))) := low_alloc w4 _
    have hY := stepAny (stepAny hb3 hb4) hX
    have k13 : Bk (w4.alloc (.cells #[.bool j0, .bool j1, .bool j2, .bool j3, .bool j4, .slice a7 l2.length c7] 30 (0, 0))) w4.heap.size 30 (stC j0 j1 j2 j3 j4 (.slice a7 l2.length c7)) := Bk.new w4 _ (stC j0 j1 j2 j3 j4 (.slice a7 l2.length c7))
    have hK7 := hK6.below hY hK6.lt
    have k7 := k7'.below hY k7'.lt
    have k8 := k8'.below hY k8'.lt
    have k10' := k10.below hY k10.lt
    have k11' := k11.below hY k11.lt
    have hlow7 := stepAny hlow6 hY
    have hl5 := hl5'.below hY (Nat.le_refl _)
    have hv5 := hv5'.below hY (Nat.le_refl _)
    have hl6 := hl6'.below hY (Nat.le_refl _)
    have hv6 := hv6'.below hY (Nat.le_refl _)
    have hl7 : Lp _ _ _ := hl4.lp.below hX (Nat.le_refl _)
    generalize w4.alloc (.cells #[.bool j0, .bool j1, .bool j2, .bool j3, .bool j4, .slice a7 l2.length c7] 30 (0, 0)) = W7 at *
    generalize w4.heap.size = b13 at *
    clear hX hY hK6 hlow6 hb4 hb3 hl3 hl4 k7' k8' k10 k11 hl5' hv5' hl6' hv6'
    obtain ⟨p0, p1, p2, p3, p4, p5, -⟩ := hK7.box
    go_upto_region 9 with (first
      | (go_at_call 22; (with_reducible refine ((rmask_w n on (HLP.out.below hlow7 (Nat.le_refl _))).mono fun _ _ h => h.open HMK.out).mono ?_); rintro e w4 ⟨a8, c8, rfl, hl8, hb8⟩)
      | (go_at_call 23; (with_reducible refine (HD.out _).mono ?_); rintro e wd ⟨rfl, rfl⟩)
      | (go_at_call 24; (with_reducible refine (HRD.out _).mono ?_); rintro e wd ⟨rfl, rfl⟩))
    clear p0 p1 p2 p3 p4 p5
    have hX : Below w4.heap.size w4 (w4.alloc (.cells #[.bool j0, .bool j1, .bool j2, .bool j3, .bool j4, .slice a8 l2.length c8] 25 (0, 0))) := low_alloc w4 _
    have hY := stepAny hb8 hX
    have k15 : Bk (w4.alloc (.cells #[.bool j0, .bool j1, .bool j2, .bool j3, .bool j4, .slice a8 l2.length c8] 25 (0, 0))) w4.heap.size 25 (stC j0 j1 j2 j3 j4 (.slice a8 l2.length c8)) := Bk.new w4 _ (stC j0 j1 j2 j3 j4 (.slice a8 l2.length c8))
    have k7' := k7.below hY k7.lt
    have k8' := k8.below hY k8.lt
    have k10 := k10'.below hY k10'.lt
    have k11 := k11'.below hY k11'.lt
    have k13' := k13.below hY k13.lt
    have hlow8 := stepAny hlow7 hY
    have hl5' := hl5.below hY (Nat.le_refl _)
    have hv5' := hv5.below hY (Nat.le_refl _)
    have hl6' := hl6.below hY (Nat.le_refl _)
    have hv6' := hv6.below hY (Nat.le_refl _)
    have hl7' := hl7.below hY (Nat.le_refl _)
    have hl8' := hl8.below hX (Nat.le_refl _)
    generalize w4.alloc (.cells #[.bool j0, .bool j1, .bool j2, .bool j3, .bool j4, .slice a8 l2.length c8] 25 (0, 0)) = W8 at *
    generalize w4.heap.size = b15 at *
    have HQ : Hid (∀ W, Below W8.heap.size W8 W → W.cell? ⟨b7, 0, none⟩ = some (.bool k0) ∧ W.cell? ⟨b7, 1, none⟩ = some (.bool k1) ∧ W.cell? ⟨b7, 2, none⟩ = some (.bool k2) ∧ W.cell? ⟨b7, 3, none⟩ = some (.bool k3) ∧ W.cell? ⟨b7, 4, none⟩ = some (.bool k4) ∧ W.cell? ⟨b7, 5, none⟩ = some (.slice a5 l.length c5) ∧ W.cell? ⟨b8, 0, none⟩ = some (.int .i64 d) ∧ W.cell? ⟨b8, 1, none⟩ = some (.int .i64 t) ∧ W.cell? ⟨b8, 2, none⟩ = some (.int .i64 z) ∧ W.cell? ⟨b8, 3, none⟩ = some (.slice x5 ys.length y5) ∧ W.cell? ⟨b10, 0, none⟩ = some (.bool k0) ∧ W.cell? ⟨b10, 1, none⟩ = some (.bool k1) ∧ W.cell? ⟨b10, 2, none⟩ = some (.bool k2) ∧ W.cell? ⟨b10, 3, none⟩ = some (.bool k3) ∧ W.cell? ⟨b10, 4, none⟩ = some (.bool k4) ∧ W.cell? ⟨b10, 5, none⟩ = some (.slice a6 l.length c6) ∧ W.cell? ⟨b11, 0, none⟩ = some (.int .i64 d) ∧ W.cell? ⟨b11, 1, none⟩ = some (.int .i64 t) ∧ W.cell? ⟨b11, 2, none⟩ = some (.int .i64 z) ∧ W.cell? ⟨b11, 3, none⟩ = some (.slice x6 ys.length y6) ∧ W.cell? ⟨b13, 0, none⟩ = some (.bool j0) ∧ W.cell? ⟨b13, 1, none⟩ = some (.bool j1) ∧ W.cell? ⟨b13, 2, none⟩ = some (.bool j2) ∧ W.cell? ⟨b13, 3, none⟩ = some (.bool j3) ∧ W.cell? ⟨b13, 4, none⟩ = some (.bool j4) ∧ W.cell? ⟨b13, 5, none⟩ = some (.slice a7 l2.length c7) ∧ W.cell? ⟨b15, 0, none⟩ = some (.bool j0) ∧ W.cell? ⟨b15, 1, none⟩ = some (.bool j1) ∧ W.cell? ⟨b15, 2, none⟩ = some (.bool j2) ∧ W.cell? ⟨b15, 3, none⟩ = some (.bool j3) ∧ W.cell? ⟨b15, 4, none⟩ = some (.bool j4) ∧ W.cell? ⟨b15, 5, none⟩ = some (.slice a8 l2.length c8)) := fun W hW => by
      have e7 := (k7'.below hW k7'.lt).box
      have e8 := (k8'.below hW k8'.lt).box4
      have e10 := (k10.below hW k10.lt).box
      have e11 := (k11.below hW k11.lt).box4
      have e13 := (k13'.below hW k13'.lt).box
      have e15 := (k15.below hW k15.lt).box
      exact ⟨e7.p0, e7.p1, e7.p2, e7.p3, e7.p4, e7.p5, e8.p0, e8.p1, e8.p2, e8.p3, e10.p0, e10.p1, e10.p2, e10.p3, e10.p4, e10.p5, e11.p0, e11.p1, e11.p2, e11.p3, e13.p0, e13.p1, e13.p2, e13.p3, e13.p4, e13.p5, e15.p0, e15.p1, e15.p2, e15.p3, e15.p4, e15.p5⟩
    have HFA : Hid (∀ W, Below W8.heap.size W8 W → Calls Try.prog 18 #[.agg #[.bool k0, .bool k1, .bool k2, .bool k3, .bool k4, .slice a5 l.length c5]] W fun e w' => ∃ a k, e = .returned (.agg #[.bool k0, .bool k1, .bool k2, .bool k3, .bool k4, .slice a l.length k]) ∧ Lp w' (.slice a l.length k) l ∧ Below W.heap.size W w') := fun W hW => from_w (hl5'.below hW (Nat.le_refl _)) hl1
    have HFC : Hid (∀ W, Below W8.heap.size W8 W → Calls Try.prog 18 #[.agg #[.bool j0, .bool j1, .bool j2, .bool j3, .bool j4, .slice a7 l2.length c7]] W fun e w' => ∃ a k, e = .returned (.agg #[.bool j0, .bool j1, .bool j2, .bool j3, .bool j4, .slice a l2.length k]) ∧ Lp w' (.slice a l2.length k) l2 ∧ Below W.heap.size W w') := fun W hW => from_w (hl7'.below hW (Nat.le_refl _)) hl2
    have HE1 : Hid (∀ W a9 k9, Below W8.heap.size W8 W → Lp W (.slice a9 l.length k9) l → Calls Try.prog 17 #[.agg #[.bool k0, .bool k1, .bool k2, .bool k3, .bool k4, .slice a9 l.length k9], .agg #[.bool k0, .bool k1, .bool k2, .bool k3, .bool k4, .slice a6 l.length c6]] W fun e w' => e = .returned (.bool true) ∧ Below W.heap.size W w') := fun W a9 k9 hW hl => (requal_m hl (hl6'.below hW (Nat.le_refl _))).mono fun _ _ h => ⟨by rw [h.1]; simp, h.2⟩
    have HE2 : Hid (∀ W a9 k9, Below W8.heap.size W8 W → Lp W (.slice a9 l2.length k9) l2 → Calls Try.prog 17 #[.agg #[.bool j0, .bool j1, .bool j2, .bool j3, .bool j4, .slice a9 l2.length k9], .agg #[.bool j0, .bool j1, .bool j2, .bool j3, .bool j4, .slice a8 l2.length c8]] W fun e w' => e = .returned (.bool true) ∧ Below W.heap.size W w') := fun W a9 k9 hW hl => (requal_m hl (hl8'.below hW (Nat.le_refl _))).mono fun _ _ h => ⟨by rw [h.1]; simp, h.2⟩
    have HSL : Hid (∀ W, Below W8.heap.size W8 W → Calls Try.prog 16 #[.agg #[.int .i64 d, .int .i64 t, .int .i64 z, .slice x5 ys.length y5], .agg #[.int .i64 d, .int .i64 t, .int .i64 z, .slice x6 ys.length y6]] W fun e w' => e = .returned (.bool true) ∧ Below W.heap.size W w') := fun W hW =>
      (sameLine_w (x := (d, t, z, ys)) (y := (d, t, z, ys)) ⟨_, rfl, hv5'.below hW (Nat.le_refl _)⟩ ⟨_, rfl, hv6'.below hW (Nat.le_refl _)⟩).mono fun _ _ h => ⟨by rw [h.1]; simp, h.2⟩
    have HVA : Hid (∀ W, Below W8.heap.size W8 W → Calls Try.prog 25 #[.agg #[.bool k0, .bool k1, .bool k2, .bool k3, .bool k4, .slice a5 l.length c5]] W fun e w' => e = .returned (.bool true) ∧ Below W.heap.size W w') := fun W hW => (valid_w (hl5'.below hW (Nat.le_refl _))).mono fun _ _ h => ⟨by rw [h.1, HV1.out], h.2⟩
    have HVC : Hid (∀ W, Below W8.heap.size W8 W → Calls Try.prog 25 #[.agg #[.bool j0, .bool j1, .bool j2, .bool j3, .bool j4, .slice a7 l2.length c7]] W fun e w' => e = .returned (.bool true) ∧ Below W.heap.size W w') := fun W hW => (valid_w (hl7'.below hW (Nat.le_refl _))).mono fun _ _ h => ⟨by rw [h.1, HV2.out], h.2⟩
    have hl0 := low_drew W8
    obtain ⟨f0, f1, f2, f3, f4, f5, f6, f7, f8, f9, f10, f11, f12, f13, f14, f15, f16, f17, f18, f19, f20, f21, f22, f23, f24, f25, f26, f27, f28, f29, f30, f31⟩ := HQ.out _ hl0
    have HLOW := Lib.hid hlow8
    clear hX hY hK7 hlow7 hlow8 hb8 hl8 k7 k8 k10' k11' k13 k7' k8' k10 k11 k13' k15 hl5 hv5 hl6 hv6 hl7 hl5' hv5' hl6' hv6' hl7' hl8'
    go_region_held3 (fun w' => w'.cell? ⟨b7, 0, none⟩ = some (.bool k0) ∧ w'.cell? ⟨b7, 1, none⟩ = some (.bool k1) ∧ w'.cell? ⟨b7, 2, none⟩ = some (.bool k2) ∧ w'.cell? ⟨b7, 3, none⟩ = some (.bool k3) ∧ w'.cell? ⟨b7, 4, none⟩ = some (.bool k4) ∧ w'.cell? ⟨b7, 5, none⟩ = some (.slice a5 l.length c5) ∧ w'.cell? ⟨b8, 0, none⟩ = some (.int .i64 d) ∧ w'.cell? ⟨b8, 1, none⟩ = some (.int .i64 t) ∧ w'.cell? ⟨b8, 2, none⟩ = some (.int .i64 z) ∧ w'.cell? ⟨b8, 3, none⟩ = some (.slice x5 ys.length y5) ∧ w'.cell? ⟨b10, 0, none⟩ = some (.bool k0) ∧ w'.cell? ⟨b10, 1, none⟩ = some (.bool k1) ∧ w'.cell? ⟨b10, 2, none⟩ = some (.bool k2) ∧ w'.cell? ⟨b10, 3, none⟩ = some (.bool k3) ∧ w'.cell? ⟨b10, 4, none⟩ = some (.bool k4) ∧ w'.cell? ⟨b10, 5, none⟩ = some (.slice a6 l.length c6) ∧ w'.cell? ⟨b11, 0, none⟩ = some (.int .i64 d) ∧ w'.cell? ⟨b11, 1, none⟩ = some (.int .i64 t) ∧ w'.cell? ⟨b11, 2, none⟩ = some (.int .i64 z) ∧ w'.cell? ⟨b11, 3, none⟩ = some (.slice x6 ys.length y6) ∧ w'.cell? ⟨b13, 0, none⟩ = some (.bool j0) ∧ w'.cell? ⟨b13, 1, none⟩ = some (.bool j1) ∧ w'.cell? ⟨b13, 2, none⟩ = some (.bool j2) ∧ w'.cell? ⟨b13, 3, none⟩ = some (.bool j3) ∧ w'.cell? ⟨b13, 4, none⟩ = some (.bool j4) ∧ w'.cell? ⟨b13, 5, none⟩ = some (.slice a7 l2.length c7) ∧ w'.cell? ⟨b15, 0, none⟩ = some (.bool j0) ∧ w'.cell? ⟨b15, 1, none⟩ = some (.bool j1) ∧ w'.cell? ⟨b15, 2, none⟩ = some (.bool j2) ∧ w'.cell? ⟨b15, 3, none⟩ = some (.bool j3) ∧ w'.cell? ⟨b15, 4, none⟩ = some (.bool j4) ∧ w'.cell? ⟨b15, 5, none⟩ = some (.slice a8 l2.length c8)) (first | go_keep | exact ⟨by assumption, by assumption, by assumption, by assumption, by assumption, by assumption, by assumption, by assumption, by assumption, by assumption, by assumption, by assumption, by assumption, by assumption, by assumption, by assumption, by assumption, by assumption, by assumption, by assumption, by assumption, by assumption, by assumption, by assumption, by assumption, by assumption, by assumption, by assumption, by assumption, by assumption, by assumption, by assumption⟩) ((first
      | (go_at_call 18; (with_reducible refine (HFA.out _ (by assumption)).mono ?_); rintro e wA ⟨aA, kA, rfl, hlA, hbA⟩; have hhA := stepAny (by assumption) hbA; obtain ⟨fa0, fa1, fa2, fa3, fa4, fa5, fa6, fa7, fa8, fa9, fa10, fa11, fa12, fa13, fa14, fa15, fa16, fa17, fa18, fa19, fa20, fa21, fa22, fa23, fa24, fa25, fa26, fa27, fa28, fa29, fa30, fa31⟩ := HQ.out wA hhA)
      | (go_at_call 18; (with_reducible refine (HFC.out _ (by assumption)).mono ?_); rintro e wC ⟨aC, kC, rfl, hlC, hbC⟩; have hhC := stepAny (by assumption) hbC; obtain ⟨fc0, fc1, fc2, fc3, fc4, fc5, fc6, fc7, fc8, fc9, fc10, fc11, fc12, fc13, fc14, fc15, fc16, fc17, fc18, fc19, fc20, fc21, fc22, fc23, fc24, fc25, fc26, fc27, fc28, fc29, fc30, fc31⟩ := HQ.out wC hhC)
      | (go_at_call 17; (with_reducible refine (HE1.out _ _ _ (by assumption) hlA).mono ?_); rintro e wB ⟨rfl, hbB⟩; have hhB := stepAny (by assumption) hbB; obtain ⟨fb0, fb1, fb2, fb3, fb4, fb5, fb6, fb7, fb8, fb9, fb10, fb11, fb12, fb13, fb14, fb15, fb16, fb17, fb18, fb19, fb20, fb21, fb22, fb23, fb24, fb25, fb26, fb27, fb28, fb29, fb30, fb31⟩ := HQ.out wB hhB)
      | (go_at_call 17; (with_reducible refine (HE2.out _ _ _ (by assumption) hlC).mono ?_); rintro e wD ⟨rfl, hbD⟩; have hhD := stepAny (by assumption) hbD; obtain ⟨fd0, fd1, fd2, fd3, fd4, fd5, fd6, fd7, fd8, fd9, fd10, fd11, fd12, fd13, fd14, fd15, fd16, fd17, fd18, fd19, fd20, fd21, fd22, fd23, fd24, fd25, fd26, fd27, fd28, fd29, fd30, fd31⟩ := HQ.out wD hhD)
      | (go_at_call 16; (with_reducible refine (HSL.out _ (by assumption)).mono ?_); rintro e wE ⟨rfl, hbE⟩; have hhE := stepAny (by assumption) hbE; obtain ⟨fe0, fe1, fe2, fe3, fe4, fe5, fe6, fe7, fe8, fe9, fe10, fe11, fe12, fe13, fe14, fe15, fe16, fe17, fe18, fe19, fe20, fe21, fe22, fe23, fe24, fe25, fe26, fe27, fe28, fe29, fe30, fe31⟩ := HQ.out wE hhE)
      | (go_at_call 25; (with_reducible refine (HVA.out _ (by assumption)).mono ?_); rintro e wF ⟨rfl, hbF⟩; have hhF := stepAny (by assumption) hbF; obtain ⟨ff0, ff1, ff2, ff3, ff4, ff5, ff6, ff7, ff8, ff9, ff10, ff11, ff12, ff13, ff14, ff15, ff16, ff17, ff18, ff19, ff20, ff21, ff22, ff23, ff24, ff25, ff26, ff27, ff28, ff29, ff30, ff31⟩ := HQ.out wF hhF)
      | (go_at_call 25; (with_reducible refine (HVC.out _ (by assumption)).mono ?_); rintro e wG ⟨rfl, hbG⟩; have hhG := stepAny (by assumption) hbG; obtain ⟨fg0, fg1, fg2, fg3, fg4, fg5, fg6, fg7, fg8, fg9, fg10, fg11, fg12, fg13, fg14, fg15, fg16, fg17, fg18, fg19, fg20, fg21, fg22, fg23, fg24, fg25, fg26, fg27, fg28, fg29, fg30, fg31⟩ := HQ.out wG hhG)))
    go_wp2
    go_ret
    exact ⟨rfl, stepAny HLOW.out hhG⟩
end Go.Proofs.Ytehniblcodkmaaa
