/-
  The walks of SameAnswer, SameCommand, SameChannel and Equal of the reference (printed by gen/mk11same.py).
-/
import Derived.Test.YteeoonoccklhmaaDd
import Derived.Deep.DeepCutAuto
namespace Go.Proofs.Yteeoonoccklhmaa
open Go.RowKit


set_option maxRecDepth 100000 in
set_option maxHeartbeats 1600000 in
theorem rsameAns_w (t1 a1 t2 a2 : Int) {u1 u2 : Value} {d1 d2 : List UInt8} {w : World} (h1 : Sl eb w u1 d1) (h2 : Sl eb w u2 d2) :
    Calls Try.prog 21 #[.agg #[.int .i64 t1, .int .i64 a1, u1], .agg #[.int .i64 t2, .int .i64 a2, u2]] w fun e w' => e = .returned (.bool (decide ((t1, a1, d1) = (t2, a2, d2)))) ∧ Below w.heap.size w w' := by
  obtain ⟨ad1, c1, hu1, -⟩ := id h1
  obtain ⟨ad2, c2, hu2, -⟩ := id h2
  subst hu1 hu2
  have HL : Hid (Below w.heap.size w ((w.alloc (.cells #[.int .i64 t1, .int .i64 a1, .slice ad1 d1.length c1] 27 (0, 0))).alloc (.cells #[.int .i64 t2, .int .i64 a2, .slice ad2 d2.length c2] 27 (0, 0)))) := (low_alloc _ _).alloc (by simp) _
  have HS : Hid (∀ W, Below w.heap.size w W → Calls Try.prog 24 #[.slice ad1 d1.length c1, .slice ad2 d2.length c2] W fun e w' => e = .returned (.bool (decide (d1 = d2))) ∧ Below W.heap.size W w') := fun W hW => sameBytes_w (h1.below hW (Nat.le_refl _)) (h2.below hW (Nat.le_refl _))
  clear h1 h2
  by_cases gt1 : t1 = t2
  rotate_left
  · have HE : Hid (decide ((t1, a1, d1) = (t2, a2, d2)) = false) := by simp only [Hid, decide_eq_false_iff_not, Prod.mk.injEq]; intro e; exact gt1 e.1
    have qt1 : (t1 == t2) = false := by simp [gt1]
    clear gt1
    generalize decide ((t1, a1, d1) = (t2, a2, d2)) = r at *
    go_enter Try.func21, Try.ntmps21
    go_wp2_with fail
    go_ret
    exact ⟨ret_bool HE.out.symm, HL.out⟩
  subst gt1
  by_cases ga1 : a1 = a2
  rotate_left
  · have HE : Hid (decide ((t1, a1, d1) = (t1, a2, d2)) = false) := by simp only [Hid, decide_eq_false_iff_not, Prod.mk.injEq]; intro e; exact ga1 e.2.1
    have qa1 : (a1 == a2) = false := by simp [ga1]
    clear ga1
    generalize decide ((t1, a1, d1) = (t1, a2, d2)) = r at *
    go_enter Try.func21, Try.ntmps21
    go_wp2_with fail
    go_ret
    exact ⟨ret_bool HE.out.symm, HL.out⟩
  subst ga1
  have HE : Hid (decide (d1 = d2) = decide ((t1, a1, d1) = (t1, a1, d2))) := by simp [Hid]
  have HS2 : Hid (∀ W, Below w.heap.size w W → Calls Try.prog 24 #[.slice ad1 d1.length c1, .slice ad2 d2.length c2] W fun e w' => e = .returned (.bool (decide ((t1, a1, d1) = (t1, a1, d2)))) ∧ Below W.heap.size W w') := by rw [HE.out] at HS; exact HS
  clear HS HE
  generalize decide ((t1, a1, d1) = (t1, a1, d2)) = r at *
  go_enter Try.func21, Try.ntmps21
  go_wp2_with (go_at_call 24; (with_reducible refine (HS2.out _ (by simpa using HL.out)).mono ?_); rintro e w1 ⟨rfl, hb1⟩)
  go_ret
  exact ⟨rfl, stepAny HL.out hb1⟩


set_option maxRecDepth 100000 in
set_option maxHeartbeats 1600000 in
theorem rsameCmd_w (t1 q1 p1 t2 q2 p2 : Int) {u1 u2 : Value} {d1 d2 : List UInt8} {w : World} (h1 : Sl eb w u1 d1) (h2 : Sl eb w u2 d2) :
    Calls Try.prog 50 #[.agg #[.int .i64 t1, .int .i64 q1, .int .i64 p1, u1], .agg #[.int .i64 t2, .int .i64 q2, .int .i64 p2, u2]] w fun e w' => e = .returned (.bool (decide ((t1, q1, p1, d1) = (t2, q2, p2, d2)))) ∧ Below w.heap.size w w' := by
  obtain ⟨ad1, c1, hu1, -⟩ := id h1
  obtain ⟨ad2, c2, hu2, -⟩ := id h2
  subst hu1 hu2
  have HL : Hid (Below w.heap.size w ((w.alloc (.cells #[.int .i64 t1, .int .i64 q1, .int .i64 p1, .slice ad1 d1.length c1] 25 (0, 0))).alloc (.cells #[.int .i64 t2, .int .i64 q2, .int .i64 p2, .slice ad2 d2.length c2] 25 (0, 0)))) := (low_alloc _ _).alloc (by simp) _
  have HS : Hid (∀ W, Below w.heap.size w W → Calls Try.prog 24 #[.slice ad1 d1.length c1, .slice ad2 d2.length c2] W fun e w' => e = .returned (.bool (decide (d1 = d2))) ∧ Below W.heap.size W w') := fun W hW => sameBytes_w (h1.below hW (Nat.le_refl _)) (h2.below hW (Nat.le_refl _))
  clear h1 h2
  by_cases gt1 : t1 = t2
  rotate_left
  · have HE : Hid (decide ((t1, q1, p1, d1) = (t2, q2, p2, d2)) = false) := by simp only [Hid, decide_eq_false_iff_not, Prod.mk.injEq]; intro e; exact gt1 e.1
    have qt1 : (t1 == t2) = false := by simp [gt1]
    clear gt1
    generalize decide ((t1, q1, p1, d1) = (t2, q2, p2, d2)) = r at *
    go_enter Try.func50, Try.ntmps50
    go_wp2_with fail
    go_ret
    exact ⟨ret_bool HE.out.symm, HL.out⟩
  subst gt1
  by_cases gq1 : q1 = q2
  rotate_left
  · have HE : Hid (decide ((t1, q1, p1, d1) = (t1, q2, p2, d2)) = false) := by simp only [Hid, decide_eq_false_iff_not, Prod.mk.injEq]; intro e; exact gq1 e.2.1
    have qq1 : (q1 == q2) = false := by simp [gq1]
    clear gq1
    generalize decide ((t1, q1, p1, d1) = (t1, q2, p2, d2)) = r at *
    go_enter Try.func50, Try.ntmps50
    go_wp2_with fail
    go_ret
    exact ⟨ret_bool HE.out.symm, HL.out⟩
  subst gq1
  by_cases gp1 : p1 = p2
  rotate_left
  · have HE : Hid (decide ((t1, q1, p1, d1) = (t1, q1, p2, d2)) = false) := by simp only [Hid, decide_eq_false_iff_not, Prod.mk.injEq]; intro e; exact gp1 e.2.2.1
    have qp1 : (p1 == p2) = false := by simp [gp1]
    clear gp1
    generalize decide ((t1, q1, p1, d1) = (t1, q1, p2, d2)) = r at *
    go_enter Try.func50, Try.ntmps50
    go_wp2_with fail
    go_ret
    exact ⟨ret_bool HE.out.symm, HL.out⟩
  subst gp1
  have HE : Hid (decide (d1 = d2) = decide ((t1, q1, p1, d1) = (t1, q1, p1, d2))) := by simp [Hid]
  have HS2 : Hid (∀ W, Below w.heap.size w W → Calls Try.prog 24 #[.slice ad1 d1.length c1, .slice ad2 d2.length c2] W fun e w' => e = .returned (.bool (decide ((t1, q1, p1, d1) = (t1, q1, p1, d2)))) ∧ Below W.heap.size W w') := by rw [HE.out] at HS; exact HS
  clear HS HE
  generalize decide ((t1, q1, p1, d1) = (t1, q1, p1, d2)) = r at *
  go_enter Try.func50, Try.ntmps50
  go_wp2_with (go_at_call 24; (with_reducible refine (HS2.out _ (by simpa using HL.out)).mono ?_); rintro e w1 ⟨rfl, hb1⟩)
  go_ret
  exact ⟨rfl, stepAny HL.out hb1⟩


set_option maxRecDepth 100000 in
set_option maxHeartbeats 4000000 in
theorem rsameChan_w (o1 o2 : Bool) (ct1 co1 cp1 l1 lt1 la1 ct2 co2 cp2 l2 lt2 la2 : Int) {uc1 ul1 uc2 ul2 : Value} {cd1 ld1 cd2 ld2 : List UInt8} {w : World} (h1 : Sl eb w uc1 cd1) (h2 : Sl eb w ul1 ld1) (h3 : Sl eb w uc2 cd2) (h4 : Sl eb w ul2 ld2) :
    Calls Try.prog 36 #[.agg #[.bool o1, .int .i64 ct1, .int .i64 co1, .int .i64 cp1, uc1, .int .i64 l1, .int .i64 lt1, .int .i64 la1, ul1], .agg #[.bool o2, .int .i64 ct2, .int .i64 co2, .int .i64 cp2, uc2, .int .i64 l2, .int .i64 lt2, .int .i64 la2, ul2]] w fun e w' => e = .returned (.bool (decide (((o1, (ct1, co1, cp1, cd1), l1, (lt1, la1, ld1)) : Dk.Ch) = (o2, (ct2, co2, cp2, cd2), l2, (lt2, la2, ld2))))) ∧ Below w.heap.size w w' := by
  obtain ⟨ac1, kc1, hu1, -⟩ := id h1
  obtain ⟨al1, kl1, hu2, -⟩ := id h2
  obtain ⟨ac2, kc2, hu3, -⟩ := id h3
  obtain ⟨al2, kl2, hu4, -⟩ := id h4
  subst hu1 hu2 hu3 hu4
  obtain ⟨W0, hW0⟩ : ∃ W0, W0 = (w.alloc (.cells #[.bool o1, .int .i64 ct1, .int .i64 co1, .int .i64 cp1, .slice ac1 cd1.length kc1, .int .i64 l1, .int .i64 lt1, .int .i64 la1, .slice al1 ld1.length kl1] 29 (0, 0))).alloc (.cells #[.bool o2, .int .i64 ct2, .int .i64 co2, .int .i64 cp2, .slice ac2 cd2.length kc2, .int .i64 l2, .int .i64 lt2, .int .i64 la2, .slice al2 ld2.length kl2] 29 (0, 0)) := ⟨_, rfl⟩
  have hA : Bk W0 w.heap.size 29 [.bool o1, .int .i64 ct1, .int .i64 co1, .int .i64 cp1, .slice ac1 cd1.length kc1, .int .i64 l1, .int .i64 lt1, .int .i64 la1, .slice al1 ld1.length kl1] := by rw [hW0]; exact (Bk.new w _ [_, _, _, _, _, _, _, _, _]).alloc _
  have hB : Bk W0 (w.heap.size + 1) 29 [.bool o2, .int .i64 ct2, .int .i64 co2, .int .i64 cp2, .slice ac2 cd2.length kc2, .int .i64 l2, .int .i64 lt2, .int .i64 la2, .slice al2 ld2.length kl2] := by rw [hW0]; exact Bk.newAt _ _ [_, _, _, _, _, _, _, _, _] (by simp)
  have hL : Below w.heap.size w W0 := by rw [hW0]; exact (low_alloc _ _).alloc (by simp) _
  have HCM : Hid (∀ W, Below w.heap.size w W → Calls Try.prog 50 #[.agg #[.int .i64 ct1, .int .i64 co1, .int .i64 cp1, .slice ac1 cd1.length kc1], .agg #[.int .i64 ct2, .int .i64 co2, .int .i64 cp2, .slice ac2 cd2.length kc2]] W fun e w' => e = .returned (.bool (decide (((ct1, co1, cp1, cd1) : Dk.Cm) = (ct2, co2, cp2, cd2)))) ∧ Below W.heap.size W w') := fun W hW => rsameCmd_w _ _ _ _ _ _ (h1.below hW (Nat.le_refl _)) (h3.below hW (Nat.le_refl _))
  have HAN : Hid (∀ W, Below w.heap.size w W → Calls Try.prog 21 #[.agg #[.int .i64 lt1, .int .i64 la1, .slice al1 ld1.length kl1], .agg #[.int .i64 lt2, .int .i64 la2, .slice al2 ld2.length kl2]] W fun e w' => e = .returned (.bool (decide (((lt1, la1, ld1) : Dk.An) = (lt2, la2, ld2)))) ∧ Below W.heap.size W w') := fun W hW => rsameAns_w _ _ _ _ (h2.below hW (Nat.le_refl _)) (h4.below hW (Nat.le_refl _))
  have HQ : Hid (∀ W, Below W0.heap.size W0 W → W.cell? ⟨w.heap.size, 0, none⟩ = some (.bool o1) ∧ W.cell? ⟨w.heap.size, 1, none⟩ = some (.int .i64 ct1) ∧ W.cell? ⟨w.heap.size, 2, none⟩ = some (.int .i64 co1) ∧ W.cell? ⟨w.heap.size, 3, none⟩ = some (.int .i64 cp1) ∧ W.cell? ⟨w.heap.size, 4, none⟩ = some (.slice ac1 cd1.length kc1) ∧ W.cell? ⟨w.heap.size, 5, none⟩ = some (.int .i64 l1) ∧ W.cell? ⟨w.heap.size, 6, none⟩ = some (.int .i64 lt1) ∧ W.cell? ⟨w.heap.size, 7, none⟩ = some (.int .i64 la1) ∧ W.cell? ⟨w.heap.size, 8, none⟩ = some (.slice al1 ld1.length kl1) ∧ W.cell? ⟨w.heap.size + 1, 0, none⟩ = some (.bool o2) ∧ W.cell? ⟨w.heap.size + 1, 1, none⟩ = some (.int .i64 ct2) ∧ W.cell? ⟨w.heap.size + 1, 2, none⟩ = some (.int .i64 co2) ∧ W.cell? ⟨w.heap.size + 1, 3, none⟩ = some (.int .i64 cp2) ∧ W.cell? ⟨w.heap.size + 1, 4, none⟩ = some (.slice ac2 cd2.length kc2) ∧ W.cell? ⟨w.heap.size + 1, 5, none⟩ = some (.int .i64 l2) ∧ W.cell? ⟨w.heap.size + 1, 6, none⟩ = some (.int .i64 lt2) ∧ W.cell? ⟨w.heap.size + 1, 7, none⟩ = some (.int .i64 la2) ∧ W.cell? ⟨w.heap.size + 1, 8, none⟩ = some (.slice al2 ld2.length kl2)) := fun W hW => by
    have e1 := hA.below hW hA.lt
    have e2 := hB.below hW hB.lt
    exact ⟨e1.cell 0, e1.cell 1, e1.cell 2, e1.cell 3, e1.cell 4, e1.cell 5, e1.cell 6, e1.cell 7, e1.cell 8, e2.cell 0, e2.cell 1, e2.cell 2, e2.cell 3, e2.cell 4, e2.cell 5, e2.cell 6, e2.cell 7, e2.cell 8⟩
  have HL := Lib.hid hL
  have HW0 := Lib.hid hW0
  clear hA hB hL hW0 h1 h2 h3 h4
  by_cases g1 : o1 = o2
  rotate_left
  · have HE : Hid (decide (((o1, (ct1, co1, cp1, cd1), l1, (lt1, la1, ld1)) : Dk.Ch) = (o2, (ct2, co2, cp2, cd2), l2, (lt2, la2, ld2))) = false) := by show _ = _; rw [decide_eq_false_iff_not]; intro e; exact g1 (congrArg Prod.fst e)
    generalize decide (((o1, (ct1, co1, cp1, cd1), l1, (lt1, la1, ld1)) : Dk.Ch) = (o2, (ct2, co2, cp2, cd2), l2, (lt2, la2, ld2))) = r at *
    have q1 : (o1 == o2) = false := by simpa using g1
    clear g1
    go_enter Try.func36, Try.ntmps36
    go_upto_region 1 with fail
    rw [← HW0.out]
    obtain ⟨x0, x1, x2, x3, x4, x5, x6, x7, x8, x9, x10, x11, x12, x13, x14, x15, x16, x17⟩ := HQ.out _ (Below.refl _ _)
    go_wp2_with fail
    go_ret
    exact ⟨ret_bool HE.out.symm, HL.out⟩
  subst g1
  by_cases g2 : l1 = l2
  rotate_left
  · have HE : Hid (decide (((o1, (ct1, co1, cp1, cd1), l1, (lt1, la1, ld1)) : Dk.Ch) = (o1, (ct2, co2, cp2, cd2), l2, (lt2, la2, ld2))) = false) := by show _ = _; rw [decide_eq_false_iff_not]; intro e; exact g2 (by injection e with _ e; injection e with _ e; injection e)
    generalize decide (((o1, (ct1, co1, cp1, cd1), l1, (lt1, la1, ld1)) : Dk.Ch) = (o1, (ct2, co2, cp2, cd2), l2, (lt2, la2, ld2))) = r at *
    have q1 : (l1 == l2) = false := by simpa using g2
    clear g2
    go_enter Try.func36, Try.ntmps36
    go_upto_region 1 with fail
    rw [← HW0.out]
    obtain ⟨x0, x1, x2, x3, x4, x5, x6, x7, x8, x9, x10, x11, x12, x13, x14, x15, x16, x17⟩ := HQ.out _ (Below.refl _ _)
    go_wp2_with fail
    go_ret
    exact ⟨ret_bool HE.out.symm, HL.out⟩
  subst g2
  by_cases g3 : ((ct1, co1, cp1, cd1) : Dk.Cm) = (ct2, co2, cp2, cd2)
  · rw [decide_eq_true g3] at HCM
    have HE : Hid (decide (((lt1, la1, ld1) : Dk.An) = (lt2, la2, ld2)) = decide (((o1, (ct1, co1, cp1, cd1), l1, (lt1, la1, ld1)) : Dk.Ch) = (o1, (ct2, co2, cp2, cd2), l1, (lt2, la2, ld2)))) := by rw [g3]; simp [Hid]
    clear g3
    rw [HE.out] at HAN
    clear HE
    generalize decide (((o1, (ct1, co1, cp1, cd1), l1, (lt1, la1, ld1)) : Dk.Ch) = (o1, (ct2, co2, cp2, cd2), l1, (lt2, la2, ld2))) = r at *
    go_enter Try.func36, Try.ntmps36
    go_upto_region 1 with fail
    rw [← HW0.out]
    obtain ⟨x0, x1, x2, x3, x4, x5, x6, x7, x8, x9, x10, x11, x12, x13, x14, x15, x16, x17⟩ := HQ.out _ (Below.refl _ _)
    go_wp2_with (first
      | (go_at_call 50; (with_reducible refine (HCM.out _ HL.out).mono ?_); rintro e w1 ⟨rfl, hb1⟩; clear x0 x1 x2 x3 x4 x5 x6 x7 x8 x9 x10 x11 x12 x13 x14 x15 x16 x17; obtain ⟨x0, x1, x2, x3, x4, x5, x6, x7, x8, x9, x10, x11, x12, x13, x14, x15, x16, x17⟩ := HQ.out _ hb1)
      | (go_at_call 21; (with_reducible refine (HAN.out _ (stepAny HL.out hb1)).mono ?_); rintro e w2 ⟨rfl, hb2⟩))
    go_ret
    exact ⟨rfl, stepAny (stepAny HL.out hb1) hb2⟩
  · rw [decide_eq_false g3] at HCM
    have HE : Hid (decide (((o1, (ct1, co1, cp1, cd1), l1, (lt1, la1, ld1)) : Dk.Ch) = (o1, (ct2, co2, cp2, cd2), l1, (lt2, la2, ld2))) = false) := by show _ = _; rw [decide_eq_false_iff_not]; intro e; exact g3 (by injection e with _ e; injection e)
    clear g3
    generalize decide (((o1, (ct1, co1, cp1, cd1), l1, (lt1, la1, ld1)) : Dk.Ch) = (o1, (ct2, co2, cp2, cd2), l1, (lt2, la2, ld2))) = r at *
    go_enter Try.func36, Try.ntmps36
    go_upto_region 1 with fail
    rw [← HW0.out]
    obtain ⟨x0, x1, x2, x3, x4, x5, x6, x7, x8, x9, x10, x11, x12, x13, x14, x15, x16, x17⟩ := HQ.out _ (Below.refl _ _)
    go_wp2_with (first
      | (go_at_call 50; (with_reducible refine (HCM.out _ HL.out).mono ?_); rintro e w1 ⟨rfl, hb1⟩))
    go_ret
    exact ⟨ret_bool HE.out.symm, stepAny HL.out hb1⟩

end Go.Proofs.Yteeoonoccklhmaa
