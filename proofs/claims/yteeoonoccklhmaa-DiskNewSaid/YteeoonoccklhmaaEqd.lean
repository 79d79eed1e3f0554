/-
  Equal of disk and of the reference: the answer is whether the two states are one (printed by gen/mk11eqd.py).
-/
import Derived.Test.YteeoonoccklhmaaDeq
import Derived.Deep.DeepCutAuto
namespace Dk
/-- Two states side by side. -/
theorem st_eq {bs1 bs2 : List (List UInt8)} {o1 o2 : Bool} {ct1 co1 cp1 l1 lt1 la1 ct2 co2 cp2 l2 lt2 la2 : Int} {cd1 ld1 cd2 ld2 : List UInt8} :
    (((bs1, (o1, (ct1, co1, cp1, cd1), l1, (lt1, la1, ld1))) : St) = (bs2, (o2, (ct2, co2, cp2, cd2), l2, (lt2, la2, ld2)))) ↔ bs1 = bs2 ∧ o1 = o2 ∧ l1 = l2 ∧ ct1 = ct2 ∧ co1 = co2 ∧ cp1 = cp2 ∧ cd1 = cd2 ∧ lt1 = lt2 ∧ la1 = la2 ∧ ld1 = ld2 := by
  simp only [Prod.mk.injEq]
  constructor
  · rintro ⟨a, b, ⟨c, d, e, f⟩, g, h, i, j⟩
    exact ⟨a, b, g, c, d, e, f, h, i, j⟩
  · rintro ⟨a, b, g, c, d, e, f, h, i, j⟩
    exact ⟨a, b, ⟨c, d, e, f⟩, g, h, i, j⟩
/-- Whether two states are one. -/
def eqS (a b : St) : Bool := decide (a.1 = b.1) && decide (a.2 = b.2)
theorem eqS_iff {a b : St} : eqS a b = true ↔ a = b := by
  unfold eqS
  rw [Bool.and_eq_true, decide_eq_true_iff, decide_eq_true_iff]
  exact ⟨fun h => Prod.ext h.1 h.2, fun h => by rw [h]; exact ⟨rfl, rfl⟩⟩
theorem eqS_no {a b : St} (h : ¬ a = b) : eqS a b = false := by
  rw [← Bool.not_eq_true, eqS_iff]; exact h
end Dk
namespace Go.Proofs.Yteeoonoccklhmaa
open Go.RowKit

theorem eqBlocks_w {va vb : Value} {ps qs : List (List UInt8)} {w : World} (ha : Pg w va ps) (hb : Pg w vb qs) :
    Calls Try.prog 42 #[va, vb, .func (.func 43) #[] #[]] w fun e w' => e = .returned (.bool (decide (ps = qs))) ∧ w = w' := by
  obtain ⟨xs, ⟨a, ca, rfl, ha1, ha2, -, ha3⟩, hal, hae⟩ := ha
  obtain ⟨ys, ⟨b, cb, rfl, hb1, hb2, -, hb3⟩, hbl, hbe⟩ := hb
  unfold maxLen at ha2 hb2
  refine equalFunc_w a b ca cb xs ys 43 #[] (fun k => decide (ps.getD k [] = qs.getD k [])) _ w (by omega) (by omega) (enters_of Try.func43 (by kernel_rfl) rfl) ha3 hb3 ?_ ?_
  · rw [decide_eq_true_iff]
    constructor
    · intro e
      subst e
      exact ⟨by omega, fun k _ => by simp⟩
    · rintro ⟨h0, h⟩
      apply List.ext_getElem (by omega)
      intro k h1 h2
      have := h k (by omega)
      simpa [List.getD, h1, h2] using this
  · intro k hx hy
    have h1 := hae k hx (by omega)
    have h2 := hbe k hy (by omega)
    have := bequal_w _ _ _ _ w h1 h2
    simpa [List.getD, show k < ps.length by omega, show k < qs.length by omega] using this

set_option maxHeartbeats 2000000 in
theorem dequal_w (o1 o2 : Bool) (ct1 co1 cp1 l1 lt1 la1 ct2 co2 cp2 l2 lt2 la2 : Int) {ub1 uc1 ul1 ub2 uc2 ul2 : Value} {bs1 bs2 : List (List UInt8)} {cd1 ld1 cd2 ld2 : List UInt8} {w : World} (h1 : Dr w ub1 uc1 ul1 bs1 cd1 ld1) (h2 : Dr w ub2 uc2 ul2 bs2 cd2 ld2) :
    Calls Try.prog 19 #[.agg #[ub1, .bool o1, .int .i64 ct1, .int .i64 co1, .int .i64 cp1, uc1, .int .i64 l1, .int .i64 lt1, .int .i64 la1, ul1], .agg #[ub2, .bool o2, .int .i64 ct2, .int .i64 co2, .int .i64 cp2, uc2, .int .i64 l2, .int .i64 lt2, .int .i64 la2, ul2]] w fun e w' => e = .returned (.bool (Dk.eqS (bs1, (o1, (ct1, co1, cp1, cd1), l1, (lt1, la1, ld1))) (bs2, (o2, (ct2, co2, cp2, cd2), l2, (lt2, la2, ld2))))) ∧ Below w.heap.size w w' := by
  have HE : ∀ r, decide (bs1 = bs2) = r → Hid (∀ W, Below w.heap.size w W → Calls Try.prog 42 #[ub1, ub2, .func (.func 43) #[] #[]] W fun e w' => e = .returned (.bool r) ∧ W = w') := fun r hr W hW => hr ▸ eqBlocks_w (h1.b.below hW (Nat.le_refl _)) (h2.b.below hW (Nat.le_refl _))
  have HB : ∀ r, decide (cd1 = cd2) = r → Hid (∀ W, Below w.heap.size w W → Calls Try.prog 43 #[uc1, uc2] W fun e w' => e = .returned (.bool r) ∧ W = w') := fun r hr W hW => hr ▸ bequal_w _ _ _ _ W (h1.c.below hW (Nat.le_refl _)) (h2.c.below hW (Nat.le_refl _))
  have HC : ∀ r, decide (ld1 = ld2) = r → Hid (∀ W, Below w.heap.size w W → Calls Try.prog 43 #[ul1, ul2] W fun e w' => e = .returned (.bool r) ∧ W = w') := fun r hr W hW => hr ▸ bequal_w _ _ _ _ W (h1.l.below hW (Nat.le_refl _)) (h2.l.below hW (Nat.le_refl _))
  obtain ⟨a1, c1, rfl, -⟩ := h1.b.open
  obtain ⟨f1, g1, rfl, -⟩ := id h1.c
  obtain ⟨x1, i1, rfl, -⟩ := id h1.l
  obtain ⟨a2, c2, rfl, -⟩ := h2.b.open
  obtain ⟨f2, g2, rfl, -⟩ := id h2.c
  obtain ⟨x2, i2, rfl, -⟩ := id h2.l
  by_cases hh0 : bs1 = bs2
  rotate_left
  · refine (deq0 o1 o2 ct1 co1 cp1 l1 lt1 la1 ct2 co2 cp2 l2 lt2 la2 a1 f1 x1 a2 f2 x2 bs1.length c1 cd1.length g1 ld1.length i1 bs2.length c2 cd2.length g2 ld2.length i2 w false (HE _ (decide_eq_false hh0))).mono fun e w' h => ⟨by rw [h.1]; exact ret_bool (Eq.symm (Dk.eqS_no fun e => hh0 (Dk.st_eq.1 e).1)), h.2⟩
  by_cases hh1 : o1 = o2
  rotate_left
  · refine (deq1 o1 o2 ct1 co1 cp1 l1 lt1 la1 ct2 co2 cp2 l2 lt2 la2 a1 f1 x1 a2 f2 x2 bs1.length c1 cd1.length g1 ld1.length i1 bs2.length c2 cd2.length g2 ld2.length i2 w false (by rw [beq_eq_false_iff_ne]; exact hh1) (HE _ (decide_eq_true hh0))).mono fun e w' h => ⟨by rw [h.1]; exact ret_bool (Eq.symm (Dk.eqS_no fun e => hh1 (Dk.st_eq.1 e).2.1)), h.2⟩
  subst hh1
  by_cases hh2 : l1 = l2
  rotate_left
  · refine (deq2 o1 o1 ct1 co1 cp1 l1 lt1 la1 ct2 co2 cp2 l2 lt2 la2 a1 f1 x1 a2 f2 x2 bs1.length c1 cd1.length g1 ld1.length i1 bs2.length c2 cd2.length g2 ld2.length i2 w false (by rw [beq_eq_false_iff_ne]; exact hh2) (HE _ (decide_eq_true hh0))).mono fun e w' h => ⟨by rw [h.1]; exact ret_bool (Eq.symm (Dk.eqS_no fun e => hh2 (Dk.st_eq.1 e).2.2.1)), h.2⟩
  subst hh2
  by_cases hh3 : ct1 = ct2
  rotate_left
  · refine (deq3 o1 o1 ct1 co1 cp1 l1 lt1 la1 ct2 co2 cp2 l1 lt2 la2 a1 f1 x1 a2 f2 x2 bs1.length c1 cd1.length g1 ld1.length i1 bs2.length c2 cd2.length g2 ld2.length i2 w false (by rw [beq_eq_false_iff_ne]; exact hh3) (HE _ (decide_eq_true hh0))).mono fun e w' h => ⟨by rw [h.1]; exact ret_bool (Eq.symm (Dk.eqS_no fun e => hh3 (Dk.st_eq.1 e).2.2.2.1)), h.2⟩
  subst hh3
  by_cases hh4 : co1 = co2
  rotate_left
  · refine (deq4 o1 o1 ct1 co1 cp1 l1 lt1 la1 ct1 co2 cp2 l1 lt2 la2 a1 f1 x1 a2 f2 x2 bs1.length c1 cd1.length g1 ld1.length i1 bs2.length c2 cd2.length g2 ld2.length i2 w false (by rw [beq_eq_false_iff_ne]; exact hh4) (HE _ (decide_eq_true hh0))).mono fun e w' h => ⟨by rw [h.1]; exact ret_bool (Eq.symm (Dk.eqS_no fun e => hh4 (Dk.st_eq.1 e).2.2.2.2.1)), h.2⟩
  subst hh4
  by_cases hh5 : cp1 = cp2
  rotate_left
  · refine (deq5 o1 o1 ct1 co1 cp1 l1 lt1 la1 ct1 co1 cp2 l1 lt2 la2 a1 f1 x1 a2 f2 x2 bs1.length c1 cd1.length g1 ld1.length i1 bs2.length c2 cd2.length g2 ld2.length i2 w false (by rw [beq_eq_false_iff_ne]; exact hh5) (HE _ (decide_eq_true hh0))).mono fun e w' h => ⟨by rw [h.1]; exact ret_bool (Eq.symm (Dk.eqS_no fun e => hh5 (Dk.st_eq.1 e).2.2.2.2.2.1)), h.2⟩
  subst hh5
  by_cases hh6 : cd1 = cd2
  rotate_left
  · refine (deq6 o1 o1 ct1 co1 cp1 l1 lt1 la1 ct1 co1 cp1 l1 lt2 la2 a1 f1 x1 a2 f2 x2 bs1.length c1 cd1.length g1 ld1.length i1 bs2.length c2 cd2.length g2 ld2.length i2 w false (HE _ (decide_eq_true hh0)) (HB _ (decide_eq_false hh6))).mono fun e w' h => ⟨by rw [h.1]; exact ret_bool (Eq.symm (Dk.eqS_no fun e => hh6 (Dk.st_eq.1 e).2.2.2.2.2.2.1)), h.2⟩
  by_cases hh7 : lt1 = lt2
  rotate_left
  · refine (deq7 o1 o1 ct1 co1 cp1 l1 lt1 la1 ct1 co1 cp1 l1 lt2 la2 a1 f1 x1 a2 f2 x2 bs1.length c1 cd1.length g1 ld1.length i1 bs2.length c2 cd2.length g2 ld2.length i2 w false (by rw [beq_eq_false_iff_ne]; exact hh7) (HE _ (decide_eq_true hh0)) (HB _ (decide_eq_true hh6))).mono fun e w' h => ⟨by rw [h.1]; exact ret_bool (Eq.symm (Dk.eqS_no fun e => hh7 (Dk.st_eq.1 e).2.2.2.2.2.2.2.1)), h.2⟩
  subst hh7
  by_cases hh8 : la1 = la2
  rotate_left
  · refine (deq8 o1 o1 ct1 co1 cp1 l1 lt1 la1 ct1 co1 cp1 l1 lt1 la2 a1 f1 x1 a2 f2 x2 bs1.length c1 cd1.length g1 ld1.length i1 bs2.length c2 cd2.length g2 ld2.length i2 w false (by rw [beq_eq_false_iff_ne]; exact hh8) (HE _ (decide_eq_true hh0)) (HB _ (decide_eq_true hh6))).mono fun e w' h => ⟨by rw [h.1]; exact ret_bool (Eq.symm (Dk.eqS_no fun e => hh8 (Dk.st_eq.1 e).2.2.2.2.2.2.2.2.1)), h.2⟩
  subst hh8
  refine (deq9 o1 o1 ct1 co1 cp1 l1 lt1 la1 ct1 co1 cp1 l1 lt1 la1 a1 f1 x1 a2 f2 x2 bs1.length c1 cd1.length g1 ld1.length i1 bs2.length c2 cd2.length g2 ld2.length i2 w (decide (ld1 = ld2)) (HE _ (decide_eq_true hh0)) (HB _ (decide_eq_true hh6)) (HC _ rfl)).mono fun e w' h => ⟨by rw [h.1]; exact ret_bool (by rw [Bool.eq_iff_iff, decide_eq_true_iff, Dk.eqS_iff, Dk.st_eq]; simp [hh0, hh6]), h.2⟩

set_option maxRecDepth 100000 in
set_option maxHeartbeats 4000000 in
theorem rsequal_w (o1 o2 : Bool) (ct1 co1 cp1 l1 lt1 la1 ct2 co2 cp2 l2 lt2 la2 : Int) {ub1 uc1 ul1 ub2 uc2 ul2 : Value} {bs1 bs2 : List (List UInt8)} {cd1 ld1 cd2 ld2 : List UInt8} {w : World} (h1 : Dr w ub1 uc1 ul1 bs1 cd1 ld1) (h2 : Dr w ub2 uc2 ul2 bs2 cd2 ld2) :
    Calls Try.prog 15 #[.agg #[ub1, .bool o1, .int .i64 ct1, .int .i64 co1, .int .i64 cp1, uc1, .int .i64 l1, .int .i64 lt1, .int .i64 la1, ul1], .agg #[ub2, .bool o2, .int .i64 ct2, .int .i64 co2, .int .i64 cp2, uc2, .int .i64 l2, .int .i64 lt2, .int .i64 la2, ul2]] w fun e w' => e = .returned (.bool (Dk.eqS (bs1, (o1, (ct1, co1, cp1, cd1), l1, (lt1, la1, ld1))) (bs2, (o2, (ct2, co2, cp2, cd2), l2, (lt2, la2, ld2))))) ∧ Below w.heap.size w w' := by
  have HS : ∀ r, decide (((o1, (ct1, co1, cp1, cd1), l1, (lt1, la1, ld1)) : Dk.Ch) = (o2, (ct2, co2, cp2, cd2), l2, (lt2, la2, ld2))) = r → Hid (∀ W, Below w.heap.size w W → Calls Try.prog 36 #[.agg #[.bool o1, .int .i64 ct1, .int .i64 co1, .int .i64 cp1, uc1, .int .i64 l1, .int .i64 lt1, .int .i64 la1, ul1], .agg #[.bool o2, .int .i64 ct2, .int .i64 co2, .int .i64 cp2, uc2, .int .i64 l2, .int .i64 lt2, .int .i64 la2, ul2]] W fun e w' => e = .returned (.bool r) ∧ Below W.heap.size W w') := fun r hr W hW => hr ▸ rsameChan_w o1 o2 ct1 co1 cp1 l1 lt1 la1 ct2 co2 cp2 l2 lt2 la2 (h1.c.below hW (Nat.le_refl _)) (h1.l.below hW (Nat.le_refl _)) (h2.c.below hW (Nat.le_refl _)) (h2.l.below hW (Nat.le_refl _))
  have HB : Hid (∀ W, Below w.heap.size w W → Calls Try.prog 37 #[.agg #[ub1], .agg #[ub2]] W fun e w' => e = .returned (.bool (decide (bs1 = bs2))) ∧ Below W.heap.size W w') := fun W hW => requal_w (h1.b.below hW (Nat.le_refl _)) (h2.b.below hW (Nat.le_refl _))
  obtain ⟨a1, c1, rfl, -⟩ := h1.b.open
  obtain ⟨f1, g1, rfl, -⟩ := id h1.c
  obtain ⟨x1, i1, rfl, -⟩ := id h1.l
  obtain ⟨a2, c2, rfl, -⟩ := h2.b.open
  obtain ⟨f2, g2, rfl, -⟩ := id h2.c
  obtain ⟨x2, i2, rfl, -⟩ := id h2.l
  obtain ⟨W0, hW0⟩ : ∃ W0, W0 = (w.alloc (.cells #[.slice a1 bs1.length c1, .bool o1, .int .i64 ct1, .int .i64 co1, .int .i64 cp1, .slice f1 cd1.length g1, .int .i64 l1, .int .i64 lt1, .int .i64 la1, .slice x1 ld1.length i1] 31 (0, 0))).alloc (.cells #[.slice a2 bs2.length c2, .bool o2, .int .i64 ct2, .int .i64 co2, .int .i64 cp2, .slice f2 cd2.length g2, .int .i64 l2, .int .i64 lt2, .int .i64 la2, .slice x2 ld2.length i2] 31 (0, 0)) := ⟨_, rfl⟩
  have hA : Bk W0 w.heap.size 31 [.slice a1 bs1.length c1, .bool o1, .int .i64 ct1, .int .i64 co1, .int .i64 cp1, .slice f1 cd1.length g1, .int .i64 l1, .int .i64 lt1, .int .i64 la1, .slice x1 ld1.length i1] := by rw [hW0]; exact (Bk.new w _ [_, _, _, _, _, _, _, _, _, _]).alloc _
  have hB : Bk W0 (w.heap.size + 1) 31 [.slice a2 bs2.length c2, .bool o2, .int .i64 ct2, .int .i64 co2, .int .i64 cp2, .slice f2 cd2.length g2, .int .i64 l2, .int .i64 lt2, .int .i64 la2, .slice x2 ld2.length i2] := by rw [hW0]; exact Bk.newAt _ _ [_, _, _, _, _, _, _, _, _, _] (by simp)
  have hL : Below w.heap.size w W0 := by rw [hW0]; exact (low_alloc _ _).alloc (by simp) _
  have HA0 := Lib.hid hA
  have HB0 := Lib.hid hB
  have HL := Lib.hid hL
  have HW0 := Lib.hid hW0
  clear hA hB hL hW0 h1 h2
  by_cases hc : (((o1, (ct1, co1, cp1, cd1), l1, (lt1, la1, ld1)) : Dk.Ch) = (o2, (ct2, co2, cp2, cd2), l2, (lt2, la2, ld2)))
  · have HS1 := HS _ (decide_eq_true hc)
    have HD : Hid (decide (bs1 = bs2) = Dk.eqS (bs1, (o1, (ct1, co1, cp1, cd1), l1, (lt1, la1, ld1))) (bs2, (o2, (ct2, co2, cp2, cd2), l2, (lt2, la2, ld2)))) := by show _ = _; rw [Bool.eq_iff_iff, decide_eq_true_iff, Dk.eqS_iff]; exact ⟨fun e => by rw [e, hc], fun e => congrArg Prod.fst e⟩
    rw [HD.out] at HB
    clear HS hc HD
    generalize Dk.eqS (bs1, (o1, (ct1, co1, cp1, cd1), l1, (lt1, la1, ld1))) (bs2, (o2, (ct2, co2, cp2, cd2), l2, (lt2, la2, ld2))) = r at *
    go_enter Try.func15, Try.ntmps15
    go_upto_region 1 with fail
    rw [← HW0.out]
    obtain ⟨p0, p1, p2, p3, p4, p5, p6, p7, p8, p9⟩ : W0.cell? ⟨w.heap.size, 0, none⟩ = some (.slice a1 bs1.length c1) ∧ W0.cell? ⟨w.heap.size, 1, none⟩ = some (.bool o1) ∧ W0.cell? ⟨w.heap.size, 2, none⟩ = some (.int .i64 ct1) ∧ W0.cell? ⟨w.heap.size, 3, none⟩ = some (.int .i64 co1) ∧ W0.cell? ⟨w.heap.size, 4, none⟩ = some (.int .i64 cp1) ∧ W0.cell? ⟨w.heap.size, 5, none⟩ = some (.slice f1 cd1.length g1) ∧ W0.cell? ⟨w.heap.size, 6, none⟩ = some (.int .i64 l1) ∧ W0.cell? ⟨w.heap.size, 7, none⟩ = some (.int .i64 lt1) ∧ W0.cell? ⟨w.heap.size, 8, none⟩ = some (.int .i64 la1) ∧ W0.cell? ⟨w.heap.size, 9, none⟩ = some (.slice x1 ld1.length i1) := ⟨HA0.out.cell 0, HA0.out.cell 1, HA0.out.cell 2, HA0.out.cell 3, HA0.out.cell 4, HA0.out.cell 5, HA0.out.cell 6, HA0.out.cell 7, HA0.out.cell 8, HA0.out.cell 9⟩
    obtain ⟨q0, q1, q2, q3, q4, q5, q6, q7, q8, q9⟩ : W0.cell? ⟨w.heap.size + 1, 0, none⟩ = some (.slice a2 bs2.length c2) ∧ W0.cell? ⟨w.heap.size + 1, 1, none⟩ = some (.bool o2) ∧ W0.cell? ⟨w.heap.size + 1, 2, none⟩ = some (.int .i64 ct2) ∧ W0.cell? ⟨w.heap.size + 1, 3, none⟩ = some (.int .i64 co2) ∧ W0.cell? ⟨w.heap.size + 1, 4, none⟩ = some (.int .i64 cp2) ∧ W0.cell? ⟨w.heap.size + 1, 5, none⟩ = some (.slice f2 cd2.length g2) ∧ W0.cell? ⟨w.heap.size + 1, 6, none⟩ = some (.int .i64 l2) ∧ W0.cell? ⟨w.heap.size + 1, 7, none⟩ = some (.int .i64 lt2) ∧ W0.cell? ⟨w.heap.size + 1, 8, none⟩ = some (.int .i64 la2) ∧ W0.cell? ⟨w.heap.size + 1, 9, none⟩ = some (.slice x2 ld2.length i2) := ⟨HB0.out.cell 0, HB0.out.cell 1, HB0.out.cell 2, HB0.out.cell 3, HB0.out.cell 4, HB0.out.cell 5, HB0.out.cell 6, HB0.out.cell 7, HB0.out.cell 8, HB0.out.cell 9⟩
    go_wp2_with (first
      | (go_at_call 36; (with_reducible refine (HS1.out _ HL.out).mono ?_); rintro e w1 ⟨rfl, hb1⟩; have y0 := (HA0.out.below hb1 HA0.out.lt).cell 0; have z0 := (HB0.out.below hb1 HB0.out.lt).cell 0; simp only [List.getElem?_cons_zero] at y0 z0)
      | (go_at_call 37; (with_reducible refine (HB.out _ (stepAny HL.out hb1)).mono ?_); rintro e w2 ⟨rfl, hb2⟩))
    go_ret
    exact ⟨rfl, stepAny (stepAny HL.out hb1) hb2⟩
  · have HS1 := HS _ (decide_eq_false hc)
    have HD : Hid (Dk.eqS (bs1, (o1, (ct1, co1, cp1, cd1), l1, (lt1, la1, ld1))) (bs2, (o2, (ct2, co2, cp2, cd2), l2, (lt2, la2, ld2))) = false) := Dk.eqS_no fun e => hc (congrArg Prod.snd e)
    clear HS hc
    generalize Dk.eqS (bs1, (o1, (ct1, co1, cp1, cd1), l1, (lt1, la1, ld1))) (bs2, (o2, (ct2, co2, cp2, cd2), l2, (lt2, la2, ld2))) = r at *
    go_enter Try.func15, Try.ntmps15
    go_upto_region 1 with fail
    rw [← HW0.out]
    obtain ⟨p0, p1, p2, p3, p4, p5, p6, p7, p8, p9⟩ : W0.cell? ⟨w.heap.size, 0, none⟩ = some (.slice a1 bs1.length c1) ∧ W0.cell? ⟨w.heap.size, 1, none⟩ = some (.bool o1) ∧ W0.cell? ⟨w.heap.size, 2, none⟩ = some (.int .i64 ct1) ∧ W0.cell? ⟨w.heap.size, 3, none⟩ = some (.int .i64 co1) ∧ W0.cell? ⟨w.heap.size, 4, none⟩ = some (.int .i64 cp1) ∧ W0.cell? ⟨w.heap.size, 5, none⟩ = some (.slice f1 cd1.length g1) ∧ W0.cell? ⟨w.heap.size, 6, none⟩ = some (.int .i64 l1) ∧ W0.cell? ⟨w.heap.size, 7, none⟩ = some (.int .i64 lt1) ∧ W0.cell? ⟨w.heap.size, 8, none⟩ = some (.int .i64 la1) ∧ W0.cell? ⟨w.heap.size, 9, none⟩ = some (.slice x1 ld1.length i1) := ⟨HA0.out.cell 0, HA0.out.cell 1, HA0.out.cell 2, HA0.out.cell 3, HA0.out.cell 4, HA0.out.cell 5, HA0.out.cell 6, HA0.out.cell 7, HA0.out.cell 8, HA0.out.cell 9⟩
    obtain ⟨q0, q1, q2, q3, q4, q5, q6, q7, q8, q9⟩ : W0.cell? ⟨w.heap.size + 1, 0, none⟩ = some (.slice a2 bs2.length c2) ∧ W0.cell? ⟨w.heap.size + 1, 1, none⟩ = some (.bool o2) ∧ W0.cell? ⟨w.heap.size + 1, 2, none⟩ = some (.int .i64 ct2) ∧ W0.cell? ⟨w.heap.size + 1, 3, none⟩ = some (.int .i64 co2) ∧ W0.cell? ⟨w.heap.size + 1, 4, none⟩ = some (.int .i64 cp2) ∧ W0.cell? ⟨w.heap.size + 1, 5, none⟩ = some (.slice f2 cd2.length g2) ∧ W0.cell? ⟨w.heap.size + 1, 6, none⟩ = some (.int .i64 l2) ∧ W0.cell? ⟨w.heap.size + 1, 7, none⟩ = some (.int .i64 lt2) ∧ W0.cell? ⟨w.heap.size + 1, 8, none⟩ = some (.int .i64 la2) ∧ W0.cell? ⟨w.heap.size + 1, 9, none⟩ = some (.slice x2 ld2.length i2) := ⟨HB0.out.cell 0, HB0.out.cell 1, HB0.out.cell 2, HB0.out.cell 3, HB0.out.cell 4, HB0.out.cell 5, HB0.out.cell 6, HB0.out.cell 7, HB0.out.cell 8, HB0.out.cell 9⟩
    go_wp2_with (go_at_call 36; (with_reducible refine (HS1.out _ HL.out).mono ?_); rintro e w1 ⟨rfl, hb1⟩)
    go_ret
    exact ⟨ret_bool HD.out.symm, stepAny HL.out hb1⟩
end Go.Proofs.Yteeoonoccklhmaa
