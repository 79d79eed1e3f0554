/-
  The walks of SameLine and Equal of the reference.
-/
import Derived.Test.YtehniblcodkmaaaIn
namespace Go.Proofs.Ytehniblcodkmaaa
open Go.RowKit

set_option maxRecDepth 20000 in
set_option maxHeartbeats 1600000 in
theorem sameLine_w {va vb : Value} {x y : Iq.Ln} {w : World} (ha : Lv w va x) (hb : Lv w vb y) :
    Calls Try.prog 16 #[va, vb] w fun e w' => e = .returned (.bool (decide (x = y))) ∧ Below w.heap.size w w' := by
  obtain ⟨u, rfl, hs⟩ := ha
  obtain ⟨u2, rfl, hs2⟩ := hb
  obtain ⟨d, t, n, xs⟩ := x
  obtain ⟨d2, t2, n2, ys⟩ := y
  simp only at hs hs2 ⊢
  obtain ⟨a, c, rfl, -⟩ := id hs
  obtain ⟨a2, c2, rfl, -⟩ := id hs2
  have HSB : Hid (∀ W, Below w.heap.size w W → Calls Try.prog 40 #[.slice a xs.length c, .slice a2 ys.length c2] W fun e w' => e = .returned (.bool (decide (xs = ys))) ∧ Below W.heap.size W w') := fun W hW => sameBytes_w (hs.below hW (Nat.le_refl _)) (hs2.below hW (Nat.le_refl _))
  have hL : Below w.heap.size w ((w.alloc (.cells #[.int .i64 d, .int .i64 t, .int .i64 n, .slice a xs.length c] 37 (0, 0))).alloc (.cells #[.int .i64 d2, .int .i64 t2, .int .i64 n2, .slice a2 ys.length c2] 37 (0, 0))) := (low_alloc _ _).alloc (by simp) _
  clear hs hs2
  by_cases h1 : d = d2
  · subst h1
    by_cases h2 : t = t2
    · subst h2
      by_cases h3 : n = n2
      · subst h3
        have HE : Hid (decide ((d, t, n, xs) = (d, t, n, ys)) = decide (xs = ys)) := by show _ = _; simp
        generalize decide ((d, t, n, xs) = (d, t, n, ys)) = r at *
        generalize decide (xs = ys) = q at *
        go_enter Try.func16, Try.ntmps16
        go_wp2_with (go_at_call 40; refine (HSB.out _ hL).mono ?_; rintro e w1 ⟨rfl, hb1⟩)
        go_ret
        exact ⟨ret_bool HE.out.symm, stepAny hL hb1⟩
      · have q1 : (n == n2) = false := by simp [h3]
        have HE : Hid (decide ((d, t, n, xs) = (d, t, n2, ys)) = false) := by show _ = _; simp [h3]
        clear h3
        generalize decide ((d, t, n, xs) = (d, t, n2, ys)) = r at *
        go_enter Try.func16, Try.ntmps16
        go_wp2
        go_ret
        exact ⟨ret_bool HE.out.symm, hL⟩
    · have q1 : (t == t2) = false := by simp [h2]
      have HE : Hid (decide ((d, t, n, xs) = (d, t2, n2, ys)) = false) := by show _ = _; simp [h2]
      clear h2
      generalize decide ((d, t, n, xs) = (d, t2, n2, ys)) = r at *
      go_enter Try.func16, Try.ntmps16
      go_wp2
      go_ret
      exact ⟨ret_bool HE.out.symm, hL⟩
  · have q1 : (d == d2) = false := by simp [h1]
    have HE : Hid (decide ((d, t, n, xs) = (d2, t2, n2, ys)) = false) := by show _ = _; simp [h1]
    clear h1
    generalize decide ((d, t, n, xs) = (d2, t2, n2, ys)) = r at *
    go_enter Try.func16, Try.ntmps16
    go_wp2
    go_ret
    exact ⟨ret_bool HE.out.symm, hL⟩

theorem eq_masks (m0 m1 m2 m3 m4 : Bool) (W : World) : (Op.equalIn 10000 22 (.agg #[.bool m0, .bool m1, .bool m2, .bool m3, .bool m4]) (.agg #[.bool m0, .bool m1, .bool m2, .bool m3, .bool m4])).run Try.prog W = .ok true W := by
  cases m0 <;> cases m1 <;> cases m2 <;> cases m3 <;> cases m4 <;> kernel_rfl

set_option maxRecDepth 20000 in
set_option maxHeartbeats 3200000 in
/-- Equal of two states with the same masks. -/
theorem requal_m {m0 m1 m2 m3 m4 : Bool} {u u2 : Value} {ls ls2 : List Iq.Ln} {w : World} (ha : Lp w u ls) (hb : Lp w u2 ls2) :
    Calls Try.prog 17 #[.agg #[.bool m0, .bool m1, .bool m2, .bool m3, .bool m4, u], .agg #[.bool m0, .bool m1, .bool m2, .bool m3, .bool m4, u2]] w fun e w' => e = .returned (.bool (decide (ls = ls2))) ∧ Below w.heap.size w w' := by
  obtain ⟨a, ca, rfl, ha1, ha2, ha3, hae⟩ := ha.open
  obtain ⟨b, cb, rfl, hb1, hb2, hb3, hbe⟩ := hb.open
  unfold maxLen at ha2 hb2
  have hq := eq_masks m0 m1 m2 m3 m4
  have HAE := Lib.hid hae
  have HBE := Lib.hid hbe
  clear hae hbe ha hb
  by_cases hl : ls.length = ls2.length
  · have hne : ((ls.length : Int) != (ls2.length : Int)) = false := by simp [hl]
    have HL := Lib.hid hl
    clear hl
    go_enter Try.func17, Try.ntmps17
    go_wp2
    go_loopw [5] (fun i wr => ∃ k : Nat, i = .int .i64 k ∧ k ≤ ls.length ∧ Hid (∀ j (hj : j < ls.length) (hj' : j < ls2.length), j < k → ls[j] = ls2[j]) ∧ Bk wr w.heap.size 25 (stC m0 m1 m2 m3 m4 (.slice a ls.length ca)) ∧ Bk wr (w.heap.size + 1) 25 (stC m0 m1 m2 m3 m4 (.slice b ls2.length cb)) ∧ Below w.heap.size w wr) (fun i _ => ls.length - (intOf i).toNat)
    case atStart => exact ⟨0, rfl, Nat.zero_le _, fun j _ _ hj => absurd hj (Nat.not_lt_zero _), (Bk.new w _ (stC m0 m1 m2 m3 m4 (.slice a ls.length ca))).alloc _, Bk.newAt _ _ (stC m0 m1 m2 m3 m4 (.slice b ls2.length cb)) (by simp), (low_alloc w _).alloc (by simp) _⟩
    case round =>
      obtain ⟨k, rfl, hk, HN, b0, b1, hbl⟩ := hrel
      have p5 := b0.box.p5
      have q5 := b1.box.p5
      by_cases hlt : k < ls.length
      · have hlt' : k < ls2.length := by have := HL.out; omega
        obtain ⟨g1, o1, v1, rfl, hg1, h41, hs1⟩ := HAE.out k hlt
        obtain ⟨g2, o2, v2, rfl, hg2, h42, hs2⟩ := HBE.out k hlt'
        have f1 : (0 : Int) ≤ (k : Int) := by omega
        have f2 : (k : Int) < (ls.length : Int) := by omega
        have f3 : (k : Int) < (ls2.length : Int) := by omega
        have hbsz := hbl.size
        have HX : Hid (∀ (h : ¬ ls[k] = ls2[k]), decide (ls = ls2) = false) := fun h => by
          rw [decide_eq_false_iff_not]
          intro e
          subst e
          exact h rfl
        have HG : Hid (ls[k] = ls2[k] → ∀ j (hj : j < ls.length) (hj' : j < ls2.length), j < k + 1 → ls[j] = ls2[j]) := fun h j hj hj' hjk => by
          by_cases e : j = k
          · subst e; exact h
          · exact HN.out j hj hj' (by omega)
        generalize ls[k] = x at *
        generalize ls2[k] = y at *
        obtain ⟨d, t, n, xs⟩ := x
        obtain ⟨d2, t2, n2, ys⟩ := y
        simp only at h41 h42 hs1 hs2
        have HS1 := Lib.hid hs1
        have HS2 := Lib.hid hs2
        obtain ⟨a1, c1, rfl, -⟩ := hs1
        obtain ⟨a2, c2, rfl, -⟩ := hs2
        have HQ : Hid (∀ W, Below wr.heap.size wr W → W.cell? ⟨w.heap.size, 5, none⟩ = some (.slice (some ⟨g1, o1, none⟩) ls.length ca) ∧ W.cell? ⟨w.heap.size + 1, 5, none⟩ = some (.slice (some ⟨g2, o2, none⟩) ls2.length cb) ∧ At4 W g1 (o1 + k * 4) d t n (.slice a1 xs.length c1) ∧ At4 W g2 (o2 + k * 4) d2 t2 n2 (.slice a2 ys.length c2)) := fun W hW =>
          ⟨(b0.below hW b0.lt).box.p5, (b1.below hW b1.lt).box.p5, (h41.below hbl hg1).below hW (by omega), (h42.below hbl hg2).below hW (by omega)⟩
        have HSL : Hid (∀ W, Below wr.heap.size wr W → Calls Try.prog 16 #[.agg #[.int .i64 d, .int .i64 t, .int .i64 n, .slice a1 xs.length c1], .agg #[.int .i64 d2, .int .i64 t2, .int .i64 n2, .slice a2 ys.length c2]] W fun e w' => e = .returned (.bool (decide ((d, t, n, xs) = (d2, t2, n2, ys)))) ∧ Below W.heap.size W w') := fun W hW =>
          sameLine_w ⟨_, rfl, (HS1.out.below hbl (Nat.le_refl _)).below hW (Nat.le_refl _)⟩ ⟨_, rfl, (HS2.out.below hbl (Nat.le_refl _)).below hW (Nat.le_refl _)⟩
        have HKW : Hid (∀ W, Below wr.heap.size wr W → Bk W w.heap.size 25 (stC m0 m1 m2 m3 m4 (.slice (some ⟨g1, o1, none⟩) ls.length ca)) ∧ Bk W (w.heap.size + 1) 25 (stC m0 m1 m2 m3 m4 (.slice (some ⟨g2, o2, none⟩) ls2.length cb)) ∧ Below w.heap.size w W) := fun W hW => ⟨b0.below hW b0.lt, b1.below hW b1.lt, stepAny hbl hW⟩
        have hl0 := low_drew wr
        obtain ⟨r5, s5, ⟨x0, x1, x2, x3⟩, ⟨y0, y1, y2, y3⟩⟩ := HQ.out _ hl0
        clear h41 h42 b0 b1
        by_cases he : (d, t, n, xs) = (d2, t2, n2, ys)
        · rw [decide_eq_true he] at HSL
          have HGG := Lib.hid (HG.out he)
          clear he HG HX
          go_wp2_with fail
          go_region_held3 (fun w' => w'.cell? ⟨w.heap.size, 5, none⟩ = some (.slice (some ⟨g1, o1, none⟩) ls.length ca) ∧ w'.cell? ⟨w.heap.size + 1, 5, none⟩ = some (.slice (some ⟨g2, o2, none⟩) ls2.length cb) ∧ w'.cell? ⟨g1, o1 + k * 4, none⟩ = some (.int .i64 d) ∧ w'.cell? ⟨g1, o1 + k * 4 + 1, none⟩ = some (.int .i64 t) ∧ w'.cell? ⟨g1, o1 + k * 4 + 2, none⟩ = some (.int .i64 n) ∧ w'.cell? ⟨g1, o1 + k * 4 + 3, none⟩ = some (.slice a1 xs.length c1) ∧ w'.cell? ⟨g2, o2 + k * 4, none⟩ = some (.int .i64 d2) ∧ w'.cell? ⟨g2, o2 + k * 4 + 1, none⟩ = some (.int .i64 t2) ∧ w'.cell? ⟨g2, o2 + k * 4 + 2, none⟩ = some (.int .i64 n2) ∧ w'.cell? ⟨g2, o2 + k * 4 + 3, none⟩ = some (.slice a2 ys.length c2)) (first | go_keep | exact ⟨by assumption, by assumption, by assumption, by assumption, by assumption, by assumption, by assumption, by assumption, by assumption, by assumption⟩) ((go_at_call 16; refine (HSL.out _ (by assumption)).mono ?_; rintro e w3 ⟨rfl, hb3⟩; have hl3 := stepAny (by assumption) hb3; obtain ⟨r53, s53, ⟨x03, x13, x23, x33⟩, ⟨y03, y13, y23, y33⟩⟩ := HQ.out w3 hl3))
          go_wp2
          go_roundw
          case rel => exact ⟨k + 1, by go_num, by omega, HGG.out, (HKW.out _ hl3).1, (HKW.out _ hl3).2.1, (HKW.out _ hl3).2.2⟩
          case measure => simp [intOf]; omega
        · rw [decide_eq_false he] at HSL
          have HXX := Lib.hid (HX.out he)
          clear he HG HX
          go_wp2_with fail
          go_region_held3 (fun w' => w'.cell? ⟨w.heap.size, 5, none⟩ = some (.slice (some ⟨g1, o1, none⟩) ls.length ca) ∧ w'.cell? ⟨w.heap.size + 1, 5, none⟩ = some (.slice (some ⟨g2, o2, none⟩) ls2.length cb) ∧ w'.cell? ⟨g1, o1 + k * 4, none⟩ = some (.int .i64 d) ∧ w'.cell? ⟨g1, o1 + k * 4 + 1, none⟩ = some (.int .i64 t) ∧ w'.cell? ⟨g1, o1 + k * 4 + 2, none⟩ = some (.int .i64 n) ∧ w'.cell? ⟨g1, o1 + k * 4 + 3, none⟩ = some (.slice a1 xs.length c1) ∧ w'.cell? ⟨g2, o2 + k * 4, none⟩ = some (.int .i64 d2) ∧ w'.cell? ⟨g2, o2 + k * 4 + 1, none⟩ = some (.int .i64 t2) ∧ w'.cell? ⟨g2, o2 + k * 4 + 2, none⟩ = some (.int .i64 n2) ∧ w'.cell? ⟨g2, o2 + k * 4 + 3, none⟩ = some (.slice a2 ys.length c2)) (first | go_keep | exact ⟨by assumption, by assumption, by assumption, by assumption, by assumption, by assumption, by assumption, by assumption, by assumption, by assumption⟩) ((go_at_call 16; refine (HSL.out _ (by assumption)).mono ?_; rintro e w3 ⟨rfl, hb3⟩; have hl3 := stepAny (by assumption) hb3; obtain ⟨r53, s53, ⟨x03, x13, x23, x33⟩, ⟨y03, y13, y23, y33⟩⟩ := HQ.out w3 hl3))
          go_wp2
          go_ret
          exact ⟨ret_bool HXX.out.symm, (HKW.out _ hl3).2.2⟩
      · have HE : Hid (decide (ls = ls2) = true) := by
          show _ = _
          rw [decide_eq_true_iff]
          exact List.ext_getElem HL.out fun j h1 h2 => HN.out j h1 h2 (by omega)
        go_wp2
        go_ret
        exact ⟨ret_bool HE.out.symm, hbl⟩
  · have hne : ((ls.length : Int) != (ls2.length : Int)) = true := by rw [bne_iff_ne]; omega
    have HE : Hid (decide (ls = ls2) = false) := by
      show _ = _
      rw [decide_eq_false_iff_not]
      intro e
      exact hl (by rw [e])
    clear hl
    go_enter Try.func17, Try.ntmps17
    go_wp2
    go_ret
    exact ⟨ret_bool HE.out.symm, (low_alloc w _).alloc (by simp) _⟩
end Go.Proofs.Ytehniblcodkmaaa
