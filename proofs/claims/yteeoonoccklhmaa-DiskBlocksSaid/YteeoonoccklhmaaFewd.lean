/-
  The walks of Few of the reference and of few of the laws.
-/
import Derived.Test.YteeoonoccklhmaaTo
namespace Go.Proofs.Yteeoonoccklhmaa
open Go.RowKit

theorem few_no {bs : List (List UInt8)} {c : Dk.Ch} {k : Nat} (hk : k < bs.length) (h : 200 < bs[k].length) : Dk.few (bs, c) = false := by
  unfold Dk.few
  rw [decide_eq_false (fun h2 => by have := h2 _ (List.getElem_mem hk); omega), Bool.false_and]
theorem few_all {bs : List (List UInt8)} {o : Bool} {cm : Int × Int × Int} {cd : List UInt8} {l : Int} {an : Int × Int} {ld : List UInt8} (h : ∀ j (hj : j < bs.length), bs[j].length ≤ 200) :
    Dk.few (bs, (o, (cm.1, cm.2.1, cm.2.2, cd), l, (an.1, an.2, ld))) = (decide (bs.length ≤ 200) && (decide (cd.length ≤ 300) && decide (ld.length ≤ 300))) := by
  unfold Dk.few
  rw [decide_eq_true (fun b hb => by obtain ⟨j, hj, rfl⟩ := List.getElem_of_mem hb; exact h j hj), Bool.true_and]

set_option maxRecDepth 100000 in
set_option maxHeartbeats 1600000 in
theorem rfew_w (o : Bool) (ct co cp l lt la : Int) {ub uc ul : Value} {bs : List (List UInt8)} {cd ld : List UInt8} {w : World} (h : Dr w ub uc ul bs cd ld) :
    Calls Try.prog 28 #[.agg #[ub, .bool o, .int .i64 ct, .int .i64 co, .int .i64 cp, uc, .int .i64 l, .int .i64 lt, .int .i64 la, ul]] w fun e w' => e = .returned (.bool (Dk.few (bs, (o, (ct, co, cp, cd), l, (lt, la, ld))))) ∧ Below w.heap.size w w' := by
  obtain ⟨a2, c2, rfl, -⟩ := id h.c
  obtain ⟨a3, c3, rfl, -⟩ := id h.l
  obtain ⟨a, cap, rfl, hc, hcm, hna, hel⟩ := h.b.open
  have HE := Lib.hid hel
  have HFC : Hid (∀ W, Calls Try.prog 48 #[.agg #[.bool o, .int .i64 ct, .int .i64 co, .int .i64 cp, .slice a2 cd.length c2, .int .i64 l, .int .i64 lt, .int .i64 la, .slice a3 ld.length c3]] W fun e w' => e = .returned (.bool (decide (cd.length ≤ 300) && decide (ld.length ≤ 300))) ∧ Below W.heap.size W w') := fun W => fewChannel_w o ct co cp l lt la a2 a3 _ c2 _ c3 W
  clear hel h hna
  unfold maxLen at hcm
  go_enter Try.func28, Try.ntmps28
  go_wp2
  go_loop [3] (fun s3 => ∃ k : Nat, s3 = .int .i64 k ∧ k ≤ bs.length ∧ Hid (∀ j (hj : j < bs.length), j < k → bs[j].length ≤ 200)) (fun s3 => bs.length - (intOf s3).toNat)
  case atStart => exact ⟨0, rfl, Nat.zero_le _, fun j _ h => absurd h (Nat.not_lt_zero _)⟩
  case round =>
    obtain ⟨k, rfl, hk, HN⟩ := hrel
    by_cases hlt : k < bs.length
    · obtain ⟨b, off, a', c', rfl, hb, hck, _⟩ := HE.out k hlt
      have f1 : (0 : Int) ≤ (k : Int) := by omega
      have f2 : (k : Int) < (bs.length : Int) := by omega
      by_cases hg : 200 < bs[k].length
      · have HF := Lib.hid (few_no (c := (o, (ct, co, cp, cd), l, (lt, la, ld))) hlt hg)
        have f3 : (200 : Int) < (bs[k].length : Int) := by omega
        go_wp2
        go_ret
        exact ⟨ret_bool HF.out.symm, low_alloc _ _⟩
      · have HN2 : Hid (∀ j (hj : j < bs.length), j < k + 1 → bs[j].length ≤ 200) := fun j hj hjk => by
          by_cases e : j = k
          · subst e; omega
          · exact HN.out j hj (by omega)
        have f3 : (bs[k].length : Int) ≤ 200 := by omega
        go_wp2
        go_round
        case rel => exact ⟨k + 1, by go_num, by omega, HN2⟩
        case measure => simp [intOf]; omega
    · have HN2 : Hid (∀ j (hj : j < bs.length), bs[j].length ≤ 200) := fun j hj => HN.out j hj (by omega)
      have HF := Lib.hid (few_all (o := o) (cm := (ct, co, cp)) (cd := cd) (l := l) (an := (lt, la)) (ld := ld) HN2.out)
      by_cases h200 : bs.length ≤ 200
      · have HD : Hid (decide (bs.length ≤ 200) = true) := decide_eq_true h200
        have f3 : (bs.length : Int) ≤ 200 := by omega
        clear h200
        go_wp2_with (go_at_call 48; (with_reducible refine (HFC.out _).mono ?_); rintro e w1 ⟨rfl, hb1⟩)
        go_ret
        refine ⟨ret_bool ?_, stepAny (low_alloc _ _) hb1⟩
        have := HF.out
        rw [HD.out, Bool.true_and] at this
        exact this.symm
      · have HD : Hid (decide (bs.length ≤ 200) = false) := decide_eq_false h200
        have f3 : ¬ (bs.length : Int) ≤ 200 := by omega
        clear h200
        go_wp2_with fail
        go_ret
        refine ⟨ret_bool ?_, low_alloc _ _⟩
        have := HF.out
        rw [HD.out, Bool.false_and] at this
        exact this.symm

set_option maxRecDepth 100000 in
set_option maxHeartbeats 1600000 in
theorem lfew_w (o : Bool) (ct co cp l lt la t q p : Int) {ub uc ul ux : Value} {bs : List (List UInt8)} {cd ld xs : List UInt8} {w : World} (h : Dr w ub uc ul bs cd ld) (hx : Sl eb w ux xs) :
    Calls Try.prog 10 #[.agg #[ub, .bool o, .int .i64 ct, .int .i64 co, .int .i64 cp, uc, .int .i64 l, .int .i64 lt, .int .i64 la, ul], .agg #[.int .i64 t, .int .i64 q, .int .i64 p, ux]] w fun e w' => e = .returned (.bool (Dk.few (bs, (o, (ct, co, cp, cd), l, (lt, la, ld))) && decide (xs.length ≤ 300))) ∧ Below w.heap.size w w' := by
  obtain ⟨a2, c2, rfl, -⟩ := id h.c
  obtain ⟨a3, c3, rfl, -⟩ := id h.l
  obtain ⟨a, cap, rfl, -⟩ := h.b.open
  obtain ⟨ax, cx, rfl, -⟩ := id hx
  obtain ⟨W0, hW0⟩ : ∃ W0, W0 = (w.alloc (.cells #[.slice a bs.length cap, .bool o, .int .i64 ct, .int .i64 co, .int .i64 cp, .slice a2 cd.length c2, .int .i64 l, .int .i64 lt, .int .i64 la, .slice a3 ld.length c3] 31 (0, 0))).alloc (.cells #[.int .i64 t, .int .i64 q, .int .i64 p, .slice ax xs.length cx] 25 (0, 0)) := ⟨_, rfl⟩
  have hK : Bk W0 w.heap.size 31 (dkC (.slice a bs.length cap) o ct co cp (.slice a2 cd.length c2) l lt la (.slice a3 ld.length c3)) := by rw [hW0]; exact (Bk.new w _ (dkC _ _ _ _ _ _ _ _ _ _)).alloc _
  have hC : Bk W0 (w.heap.size + 1) 25 [.int .i64 t, .int .i64 q, .int .i64 p, .slice ax xs.length cx] := by rw [hW0]; exact Bk.newAt _ _ [_, _, _, _] (by simp)
  have hL : Below w.heap.size w W0 := by rw [hW0]; exact (low_alloc _ _).alloc (by simp) _
  have HF : Hid (∀ W, Below w.heap.size w W → Calls Try.prog 28 #[.agg #[.slice a bs.length cap, .bool o, .int .i64 ct, .int .i64 co, .int .i64 cp, .slice a2 cd.length c2, .int .i64 l, .int .i64 lt, .int .i64 la, .slice a3 ld.length c3]] W fun e w' => e = .returned (.bool (Dk.few (bs, (o, (ct, co, cp, cd), l, (lt, la, ld))))) ∧ Below W.heap.size W w') := fun W hW => rfew_w o ct co cp l lt la (h.below hW (Nat.le_refl _))
  have HL := Lib.hid hL
  have HC := Lib.hid hC
  have HK := Lib.hid hK
  have HW0 := Lib.hid hW0
  clear h hx hC hL hW0 hK
  generalize Dk.few (bs, (o, (ct, co, cp, cd), l, (lt, la, ld))) = f at *
  have HFF : ∀ b, f = b → Hid (∀ W, Below w.heap.size w W → Calls Try.prog 28 #[.agg #[.slice a bs.length cap, .bool o, .int .i64 ct, .int .i64 co, .int .i64 cp, .slice a2 cd.length c2, .int .i64 l, .int .i64 lt, .int .i64 la, .slice a3 ld.length c3]] W fun e w' => e = .returned (.bool b) ∧ Below W.heap.size W w') := fun b hb => hb ▸ HF
  cases hf : f with
  | false =>
    have HG := HFF _ hf
    clear HF HFF hf
    rw [Bool.false_and]
    go_enter Try.func10, Try.ntmps10
    go_upto_region 1 with fail
    rw [← HW0.out]
    obtain ⟨p0, p1, p2, p3, p4, p5, p6, p7, p8, p9⟩ := HK.out.boxD
    go_wp2_with (go_at_call 28; (with_reducible refine (HG.out _ HL.out).mono ?_); rintro e w1 ⟨rfl, hb1⟩)
    go_ret
    exact ⟨rfl, stepAny HL.out hb1⟩
  | true =>
    have HG := HFF _ hf
    clear HF HFF hf
    rw [Bool.true_and]
    by_cases h3 : xs.length ≤ 300
    · have q1 : (xs.length : Int) ≤ 300 := by omega
      rw [decide_eq_true h3]
      clear h3
      go_enter Try.func10, Try.ntmps10
      go_upto_region 1 with fail
      rw [← HW0.out]
      obtain ⟨p0, p1, p2, p3, p4, p5, p6, p7, p8, p9⟩ := HK.out.boxD
      go_wp2_with (go_at_call 28; (with_reducible refine (HG.out _ HL.out).mono ?_); rintro e w1 ⟨rfl, hb1⟩; have c3 := (HC.out.below hb1 HC.out.lt).cell 3; simp only [List.getElem?_cons_succ, List.getElem?_cons_zero] at c3)
      go_ret
      exact ⟨ret_bool (by simp), stepAny HL.out hb1⟩
    · have q1 : ¬ (xs.length : Int) ≤ 300 := by omega
      rw [decide_eq_false h3]
      clear h3
      go_enter Try.func10, Try.ntmps10
      go_upto_region 1 with fail
      rw [← HW0.out]
      obtain ⟨p0, p1, p2, p3, p4, p5, p6, p7, p8, p9⟩ := HK.out.boxD
      go_wp2_with (go_at_call 28; (with_reducible refine (HG.out _ HL.out).mono ?_); rintro e w1 ⟨rfl, hb1⟩; have c3 := (HC.out.below hb1 HC.out.lt).cell 3; simp only [List.getElem?_cons_succ, List.getElem?_cons_zero] at c3)
      go_ret
      exact ⟨ret_bool (by simp; omega), stepAny HL.out hb1⟩
end Go.Proofs.Yteeoonoccklhmaa
