/-
  The walks of irq.Equal and of the reference's Equal, the masks of the second state being those of the first or none.
-/
import Derived.Test.YtehniblcodkmaaaIo
import Derived.Test.YtehniblcodkmaaaPlain
namespace Go.Proofs.Ytehniblcodkmaaa
open Go.RowKit

theorem eqz_masks' (m0 m1 m2 m3 m4 : Bool) (W : World) : (Op.equalIn 10000 22 (.agg #[.bool m0, .bool m1, .bool m2, .bool m3, .bool m4]) (.agg #[.bool false, .bool false, .bool false, .bool false, .bool false])).run Try.prog W = .ok (!m0 && (!m1 && (!m2 && (!m3 && !m4)))) W := by
  cases m0 <;> cases m1 <;> cases m2 <;> cases m3 <;> cases m4 <;> kernel_rfl

set_option maxRecDepth 20000 in
set_option maxHeartbeats 1600000 in
theorem requal_o {m0 m1 m2 m3 m4 n0 n1 n2 n3 n4 : Bool} {u u2 : Value} {ls ls2 : List Iq.Ln} {w : World} (ha : Lp w u ls) (hb : Lp w u2 ls2) (hn : [n0, n1, n2, n3, n4] = [m0, m1, m2, m3, m4] ∨ [n0, n1, n2, n3, n4] = Iq.nomask) :
    Calls Try.prog 17 #[.agg #[.bool m0, .bool m1, .bool m2, .bool m3, .bool m4, u], .agg #[.bool n0, .bool n1, .bool n2, .bool n3, .bool n4, u2]] w fun e w' => e = .returned (.bool (decide ((([m0, m1, m2, m3, m4], ls) : Iq.St) = ([n0, n1, n2, n3, n4], ls2)))) ∧ Below w.heap.size w w' := by
  rcases hn with hn | hn
  · simp only [List.cons.injEq, and_true] at hn
    obtain ⟨rfl, rfl, rfl, rfl, rfl⟩ := hn
    refine (requal_m ha hb).mono fun e w' h => ⟨?_, h.2⟩
    rw [h.1]
    refine ret_bool ?_
    rw [Bool.eq_iff_iff]
    simp
  · simp only [Iq.nomask, List.cons.injEq, and_true] at hn
    obtain ⟨rfl, rfl, rfl, rfl, rfl⟩ := hn
    cases hz : (!m0 && (!m1 && (!m2 && (!m3 && !m4)))) with
    | true =>
      simp only [Bool.and_eq_true, Bool.not_eq_true'] at hz
      obtain ⟨rfl, rfl, rfl, rfl, rfl⟩ := hz
      refine (requal_m ha hb).mono fun e w' h => ⟨?_, h.2⟩
      rw [h.1]
      refine ret_bool ?_
      rw [Bool.eq_iff_iff]
      simp
    | false =>
      have hq := eqz_masks' m0 m1 m2 m3 m4
      rw [hz] at hq
      have HE : Hid (decide ((([m0, m1, m2, m3, m4], ls) : Iq.St) = ([false, false, false, false, false], ls2)) = false) := by
        show _ = _
        rw [decide_eq_false_iff_not]
        intro e
        simp only [Prod.mk.injEq, List.cons.injEq, and_true] at e
        obtain ⟨⟨rfl, rfl, rfl, rfl, rfl⟩, _⟩ := e
        simp at hz
      generalize decide ((([m0, m1, m2, m3, m4], ls) : Iq.St) = ([false, false, false, false, false], ls2)) = r at *
      obtain ⟨a, k, rfl⟩ := ha.form
      obtain ⟨a2, k2, rfl⟩ := hb.form
      clear ha hb hz
      go_enter Try.func17, Try.ntmps17
      go_wp2
      go_ret
      exact ⟨ret_bool HE.out.symm, (low_alloc w _).alloc (by simp) _⟩

set_option maxRecDepth 20000 in
set_option maxHeartbeats 1600000 in
theorem equal1_w (d t n d2 t2 n2 : Int) {v v2 : Value} {xs ys : List UInt8} {w : World} (h1 : Sl eb w v xs) (h2 : Sl eb w v2 ys) :
    Calls Try.prog 45 #[.agg #[.int .i64 d, .int .i64 t, .int .i64 n, v], .agg #[.int .i64 d2, .int .i64 t2, .int .i64 n2, v2]] w fun e w' => e = .returned (.bool (decide (((d, t, n, xs) : Iq.Ln) = (d2, t2, n2, ys)))) ∧ Below w.heap.size w w' := by
  obtain ⟨a, c, rfl, -⟩ := id h1
  obtain ⟨a2, c2, rfl, -⟩ := id h2
  have hL : Below w.heap.size w ((w.alloc (.cells #[.int .i64 d, .int .i64 t, .int .i64 n, .slice a xs.length c] 38 (0, 0))).alloc (.cells #[.int .i64 d2, .int .i64 t2, .int .i64 n2, .slice a2 ys.length c2] 38 (0, 0))) := (low_alloc _ _).alloc (by simp) _
  have HSB : Hid (∀ W, Below w.heap.size w W → Calls Try.prog 46 #[.slice a xs.length c, .slice a2 ys.length c2] W fun e w' => e = .returned (.bool (decide (xs = ys))) ∧ W = w') := fun W hW => bequal_w _ _ _ _ W (h1.below hW (Nat.le_refl _)) (h2.below hW (Nat.le_refl _))
  clear h1 h2
  by_cases h1 : d = d2
  · subst h1
    by_cases h2 : t = t2
    · subst h2
      by_cases h3 : n = n2
      · subst h3
        have HE : Hid (decide (((d, t, n, xs) : Iq.Ln) = (d, t, n, ys)) = decide (xs = ys)) := by show _ = _; simp
        generalize decide (((d, t, n, xs) : Iq.Ln) = (d, t, n, ys)) = r at *
        generalize decide (xs = ys) = q at *
        go_enter Try.func45, Try.ntmps45
        go_wp2_with (go_at_call 46; refine (HSB.out _ hL).mono ?_; rintro e w1 ⟨rfl, rfl⟩)
        go_ret
        exact ⟨ret_bool HE.out.symm, hL⟩
      · have q1 : (n == n2) = false := by simp [h3]
        have HE : Hid (decide (((d, t, n, xs) : Iq.Ln) = (d, t, n2, ys)) = false) := by show _ = _; simp [h3]
        clear h3
        generalize decide (((d, t, n, xs) : Iq.Ln) = (d, t, n2, ys)) = r at *
        go_enter Try.func45, Try.ntmps45
        go_wp2
        go_ret
        exact ⟨ret_bool HE.out.symm, hL⟩
    · have q1 : (t == t2) = false := by simp [h2]
      have HE : Hid (decide (((d, t, n, xs) : Iq.Ln) = (d, t2, n2, ys)) = false) := by show _ = _; simp [h2]
      clear h2
      generalize decide (((d, t, n, xs) : Iq.Ln) = (d, t2, n2, ys)) = r at *
      go_enter Try.func45, Try.ntmps45
      go_wp2
      go_ret
      exact ⟨ret_bool HE.out.symm, hL⟩
  · have q1 : (d == d2) = false := by simp [h1]
    have HE : Hid (decide (((d, t, n, xs) : Iq.Ln) = (d2, t2, n2, ys)) = false) := by show _ = _; simp [h1]
    clear h1
    generalize decide (((d, t, n, xs) : Iq.Ln) = (d2, t2, n2, ys)) = r at *
    go_enter Try.func45, Try.ntmps45
    go_wp2
    go_ret
    exact ⟨ret_bool HE.out.symm, hL⟩

set_option maxRecDepth 20000 in
set_option maxHeartbeats 1600000 in
theorem eqFunc_w {u u2 : Value} {ls ls2 : List Iq.Ln} {w : World} (ha : Lp w u ls) (hb : Lp w u2 ls2) :
    Calls Try.prog 44 #[u, u2, .func (.func 45) #[] #[]] w fun e w' => e = .returned (.bool (decide (ls = ls2))) ∧ Below w.heap.size w w' := by
  obtain ⟨a, ca, rfl, ha1, ha2, ha3, hae⟩ := ha.open
  obtain ⟨b, cb, rfl, hb1, hb2, hb3, hbe⟩ := hb.open
  unfold maxLen at ha2 hb2
  have eg := enters_of Try.func45 (by kernel_rfl) rfl
  have HAE := Lib.hid hae
  have HBE := Lib.hid hbe
  clear hae hbe ha hb
  by_cases hl : ls.length = ls2.length
  · have hne : ((ls.length : Int) != (ls2.length : Int)) = false := by simp [hl]
    have HL := Lib.hid hl
    clear hl
    go_enter Try.func44, Try.ntmps44
    go_wp2
    go_loopw [7, 8, 9, 17] (fun _ _ _ i wr => ∃ k : Nat, i = .int .i64 k ∧ k ≤ ls.length ∧ Hid (∀ j (hj : j < ls.length) (hj' : j < ls2.length), j < k → ls[j] = ls2[j]) ∧ Below w.heap.size w wr) (fun _ _ _ i _ => ls.length - (intOf i).toNat)
    case atStart => exact ⟨0, rfl, Nat.zero_le _, fun j _ _ hj => absurd hj (Nat.not_lt_zero _), Below.refl _ _⟩
    case round =>
      obtain ⟨k, rfl, hk, HN, hbl⟩ := hrel
      by_cases hlt : k < ls.length
      · have hlt' : k < ls2.length := by have := HL.out; omega
        obtain ⟨g1, o1, v1, rfl, hg1, h41, hs1⟩ := HAE.out k hlt
        obtain ⟨g2, o2, v2, rfl, hg2, h42, hs2⟩ := HBE.out k hlt'
        have f1 : (0 : Int) ≤ (k : Int) := by omega
        have f2 : (k : Int) < (ls.length : Int) := by omega
        have f3 : (k : Int) < (ls2.length : Int) := by omega
        have hbsz := hbl.size
        have HX : Hid (∀ (h : ¬ ls[k] = ls2[k]), decide (ls = ls2) = false) := fun h => by
          rw [decide_eq_false_iff_not]
          intro e
          subst e
          exact h rfl
        have HG : Hid (ls[k] = ls2[k] → ∀ j (hj : j < ls.length) (hj' : j < ls2.length), j < k + 1 → ls[j] = ls2[j]) := fun h j hj hj' hjk => by
          by_cases e : j = k
          · subst e; exact h
          · exact HN.out j hj hj' (by omega)
        generalize ls[k] = x at *
        generalize ls2[k] = y at *
        obtain ⟨d, t, n, xs⟩ := x
        obtain ⟨d2, t2, n2, ys⟩ := y
        simp only at h41 h42 hs1 hs2
        have HS1 := Lib.hid hs1
        have HS2 := Lib.hid hs2
        obtain ⟨a1, c1, rfl, -⟩ := hs1
        obtain ⟨a2, c2, rfl, -⟩ := hs2
        have HSL : Hid (∀ W, Below wr.heap.size wr W → Calls Try.prog 45 #[.agg #[.int .i64 d, .int .i64 t, .int .i64 n, .slice a1 xs.length c1], .agg #[.int .i64 d2, .int .i64 t2, .int .i64 n2, .slice a2 ys.length c2]] W fun e w' => e = .returned (.bool (decide (((d, t, n, xs) : Iq.Ln) = (d2, t2, n2, ys)))) ∧ Below W.heap.size W w') := fun W hW =>
          equal1_w d t n d2 t2 n2 ((HS1.out.below hbl (Nat.le_refl _)).below hW (Nat.le_refl _)) ((HS2.out.below hbl (Nat.le_refl _)).below hW (Nat.le_refl _))
        obtain ⟨x0, x1, x2, x3⟩ := h41.below hbl hg1
        obtain ⟨y0, y1, y2, y3⟩ := h42.below hbl hg2
        have hX : Below wr.heap.size wr ((wr.alloc (.cells #[.int .i64 d, .int .i64 t, .int .i64 n, .slice a1 xs.length c1] 38 (0, 0))).alloc (.cells #[.int .i64 d2, .int .i64 t2, .int .i64 n2, .slice a2 ys.length c2] 38 (0, 0))) := (low_alloc _ _).alloc (by simp) _
        have HLOW := Lib.hid (stepAny hbl hX)
        have hbw2 : g2 < wr.heap.size := by omega
        have hbw1 : g1 < wr.heap.size := by omega
        clear h41 h42
        by_cases he : ((d, t, n, xs) : Iq.Ln) = (d2, t2, n2, ys)
        · rw [decide_eq_true he] at HSL
          have HGG := Lib.hid (HG.out he)
          clear he HG HX
          go_wp2_with fail
          refine (HSL.out _ hX).mono ?_
          rintro e w3 ⟨rfl, hb3⟩
          go_wp2
          go_roundw
          case rel => exact ⟨k + 1, by go_num, by omega, HGG.out, stepAny HLOW.out hb3⟩
          case measure => simp [intOf]; omega
        · rw [decide_eq_false he] at HSL
          have HXX := Lib.hid (HX.out he)
          clear he HG HX
          go_wp2_with fail
          refine (HSL.out _ hX).mono ?_
          rintro e w3 ⟨rfl, hb3⟩
          go_wp2
          go_ret
          exact ⟨ret_bool HXX.out.symm, stepAny HLOW.out hb3⟩
      · have HE : Hid (decide (ls = ls2) = true) := by
          show _ = _
          rw [decide_eq_true_iff]
          exact List.ext_getElem HL.out fun j h1 h2 => HN.out j h1 h2 (by omega)
        go_wp2
        go_ret
        exact ⟨ret_bool HE.out.symm, hbl⟩
  · have hne : ((ls.length : Int) != (ls2.length : Int)) = true := by rw [bne_iff_ne]; omega
    have HE : Hid (decide (ls = ls2) = false) := by
      show _ = _
      rw [decide_eq_false_iff_not]
      intro e
      exact hl (by rw [e])
    clear hl
    go_enter Try.func44, Try.ntmps44
    go_wp2
    go_ret
    exact ⟨ret_bool HE.out.symm, Below.refl _ _⟩

set_option maxRecDepth 20000 in
set_option maxHeartbeats 1600000 in
theorem iequal_o {m0 m1 m2 m3 m4 n0 n1 n2 n3 n4 : Bool} {u u2 : Value} {ls ls2 : List Iq.Ln} {w : World} (ha : Lp w u ls) (hb : Lp w u2 ls2) (hn : [n0, n1, n2, n3, n4] = [m0, m1, m2, m3, m4] ∨ [n0, n1, n2, n3, n4] = Iq.nomask) :
    Calls Try.prog 28 #[.agg #[.bool m0, .bool m1, .bool m2, .bool m3, .bool m4, u], .agg #[.bool n0, .bool n1, .bool n2, .bool n3, .bool n4, u2]] w fun e w' => e = .returned (.bool (decide ((([m0, m1, m2, m3, m4], ls) : Iq.St) = ([n0, n1, n2, n3, n4], ls2)))) ∧ Below w.heap.size w w' := by
  have hL : Below w.heap.size w ((w.alloc (.cells #[.bool m0, .bool m1, .bool m2, .bool m3, .bool m4, u] 30 (0, 0))).alloc (.cells #[.bool n0, .bool n1, .bool n2, .bool n3, .bool n4, u2] 30 (0, 0))) := (low_alloc _ _).alloc (by simp) _
  have HF : Hid (∀ W, Below w.heap.size w W → Calls Try.prog 44 #[u, u2, .func (.func 45) #[] #[]] W fun e w' => e = .returned (.bool (decide (ls = ls2))) ∧ Below W.heap.size W w') := fun W hW => eqFunc_w (ha.below hW (Nat.le_refl _)) (hb.below hW (Nat.le_refl _))
  obtain ⟨a, k, rfl⟩ := ha.form
  obtain ⟨a2, k2, rfl⟩ := hb.form
  clear ha hb
  rcases hn with hn | hn
  · simp only [List.cons.injEq, and_true] at hn
    obtain ⟨rfl, rfl, rfl, rfl, rfl⟩ := hn
    have hq := eq_masks n0 n1 n2 n3 n4
    have HE : Hid (decide ((([n0, n1, n2, n3, n4], ls) : Iq.St) = ([n0, n1, n2, n3, n4], ls2)) = decide (ls = ls2)) := by show _ = _; simp
    generalize decide ((([n0, n1, n2, n3, n4], ls) : Iq.St) = ([n0, n1, n2, n3, n4], ls2)) = r at *
    generalize decide (ls = ls2) = q at *
    go_enter Try.func28, Try.ntmps28
    go_wp2_with (go_at_call 44; refine (HF.out _ hL).mono ?_; rintro e w1 ⟨rfl, hb1⟩)
    go_ret
    exact ⟨ret_bool HE.out.symm, stepAny hL hb1⟩
  · simp only [Iq.nomask, List.cons.injEq, and_true] at hn
    obtain ⟨rfl, rfl, rfl, rfl, rfl⟩ := hn
    have hq := eqz_masks' m0 m1 m2 m3 m4
    cases hz : (!m0 && (!m1 && (!m2 && (!m3 && !m4)))) with
    | true =>
      rw [hz] at hq
      have HE : Hid (decide ((([m0, m1, m2, m3, m4], ls) : Iq.St) = ([false, false, false, false, false], ls2)) = decide (ls = ls2)) := by
        simp only [Bool.and_eq_true, Bool.not_eq_true'] at hz
        obtain ⟨rfl, rfl, rfl, rfl, rfl⟩ := hz
        show _ = _; simp
      clear hz
      generalize decide ((([m0, m1, m2, m3, m4], ls) : Iq.St) = ([false, false, false, false, false], ls2)) = r at *
      generalize decide (ls = ls2) = q at *
      go_enter Try.func28, Try.ntmps28
      go_wp2_with (go_at_call 44; refine (HF.out _ hL).mono ?_; rintro e w1 ⟨rfl, hb1⟩)
      go_ret
      exact ⟨ret_bool HE.out.symm, stepAny hL hb1⟩
    | false =>
      rw [hz] at hq
      have HE : Hid (decide ((([m0, m1, m2, m3, m4], ls) : Iq.St) = ([false, false, false, false, false], ls2)) = false) := by
        show _ = _
        rw [decide_eq_false_iff_not]
        intro e
        simp only [Prod.mk.injEq, List.cons.injEq, and_true] at e
        obtain ⟨⟨rfl, rfl, rfl, rfl, rfl⟩, _⟩ := e
        simp at hz
      generalize decide ((([m0, m1, m2, m3, m4], ls) : Iq.St) = ([false, false, false, false, false], ls2)) = r at *
      clear hz HF
      go_enter Try.func28, Try.ntmps28
      go_wp2
      go_ret
      exact ⟨ret_bool HE.out.symm, hL⟩
end Go.Proofs.Ytehniblcodkmaaa
