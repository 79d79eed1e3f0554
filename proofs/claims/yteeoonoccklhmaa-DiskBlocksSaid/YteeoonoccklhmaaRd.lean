/-
  The walks of ValidChannel, Valid, Duration of the reference, and of from of the laws.
-/
import Derived.Test.YteeoonoccklhmaaSame
import Derived.Test.YteeoonoccklhmaaFewd
namespace Dk
theorem valid_no {bs : List (List UInt8)} {c : Ch} {k : Nat} (hk : k < bs.length) (h : bs[k].length ≠ 128) : valid (bs, c) = false := by
  have ha : all128 bs = false := by
    unfold all128
    rw [List.all_eq_false]
    exact ⟨_, List.getElem_mem hk, by simpa using h⟩
  unfold valid
  rw [ha, Bool.and_false, Bool.and_false]
theorem valid_all {bs : List (List UInt8)} {c : Ch} (h : ∀ j (hj : j < bs.length), bs[j].length = 128) : valid (bs, c) = (decide (bs.length = 160) && validC c) := by
  have ha : all128 bs = true := by
    unfold all128
    rw [List.all_eq_true]
    intro b hb
    obtain ⟨j, hj, rfl⟩ := List.getElem_of_mem hb
    simpa using h j hj
  unfold valid
  rw [ha, Bool.and_true]
end Dk
namespace Go.Proofs.Yteeoonoccklhmaa
open Go.RowKit

set_option maxHeartbeats 3200000 in
theorem rcv_zt (ct : Int) (co cp l la : Int) {uc ul : Value} {cd ld : List UInt8} {w : World} (hc : Sl eb w uc cd) :
    Calls Try.prog 41 #[.agg #[.bool true, .int .i64 ct, .int .i64 co, .int .i64 cp, uc, .int .i64 l, .int .i64 0, .int .i64 la, ul], .int .i64 0, .int .i64 3] w fun e w' => e = .returned (.bool (Dk.validC (true, (ct, co, cp, cd), l, (0, la, ld)))) ∧ Below w.heap.size w w' := by
  obtain ⟨a, c, rfl, -⟩ := id hc
  have HL : Hid (Below w.heap.size w (w.alloc (.cells #[.bool true, .int .i64 ct, .int .i64 co, .int .i64 cp, .slice a cd.length c, .int .i64 l, .int .i64 0, .int .i64 la, ul] 29 (0, 0)))) := low_alloc _ _
  have HK : Hid (Bk (w.alloc (.cells #[.bool true, .int .i64 ct, .int .i64 co, .int .i64 cp, .slice a cd.length c, .int .i64 l, .int .i64 0, .int .i64 la, ul] 29 (0, 0))) w.heap.size 29 [.bool true, .int .i64 ct, .int .i64 co, .int .i64 cp, .slice a cd.length c, .int .i64 l, .int .i64 0, .int .i64 la, ul]) := Bk.new _ _ [_, _, _, _, _, _, _, _, _]
  have HP1 := Lib.hid (fun W => rproper_w ct W)
  have HE : Hid (Dk.validC (true, (ct, co, cp, cd), l, (0, la, ld)) = (Dk.prop ct && (decide (0 ≤ ct) && (decide (1 ≤ l) && decide (l ≤ 3))))) := by
    show _ = _
    unfold Dk.validC
    rw [if_neg (by simp), if_pos rfl]
  generalize Dk.validC (true, (ct, co, cp, cd), l, (0, la, ld)) = r at *
  clear hc
  cases h1 : Dk.prop ct
  all_goals
    rw [h1] at HP1 HE
    clear h1
    go_enter Try.func41, Try.ntmps41
    go_wp2_with (first
      | (go_at_call 33; (with_reducible refine (HP1.out _).mono ?_); rintro e w1 ⟨rfl, rfl⟩))
    all_goals (try go_wp2)
  all_goals
    go_ret
    refine ⟨ret_bool ?_, HL.out⟩
    rw [HE.out]
    clear HP1 HE HL HK
    first | rfl | (simp; done) | (simp [*]; done) | (rw [Bool.eq_iff_iff]; simp; done) | (simp [*]; omega) | (simp <;> omega)

set_option maxHeartbeats 3200000 in
theorem rcv_zf (ct : Int) (co cp l la : Int) {uc ul : Value} {cd ld : List UInt8} {w : World} (hc : Sl eb w uc cd) :
    Calls Try.prog 41 #[.agg #[.bool false, .int .i64 ct, .int .i64 co, .int .i64 cp, uc, .int .i64 l, .int .i64 0, .int .i64 la, ul], .int .i64 0, .int .i64 3] w fun e w' => e = .returned (.bool (Dk.validC (false, (ct, co, cp, cd), l, (0, la, ld)))) ∧ Below w.heap.size w w' := by
  obtain ⟨a, c, rfl, -⟩ := id hc
  have HL : Hid (Below w.heap.size w (w.alloc (.cells #[.bool false, .int .i64 ct, .int .i64 co, .int .i64 cp, .slice a cd.length c, .int .i64 l, .int .i64 0, .int .i64 la, ul] 29 (0, 0)))) := low_alloc _ _
  have HK : Hid (Bk (w.alloc (.cells #[.bool false, .int .i64 ct, .int .i64 co, .int .i64 cp, .slice a cd.length c, .int .i64 l, .int .i64 0, .int .i64 la, ul] 29 (0, 0))) w.heap.size 29 [.bool false, .int .i64 ct, .int .i64 co, .int .i64 cp, .slice a cd.length c, .int .i64 l, .int .i64 0, .int .i64 la, ul]) := Bk.new _ _ [_, _, _, _, _, _, _, _, _]
  have HSC : ∀ r, decide (((ct, co, cp, cd) : Dk.Cm) = Dk.zcm) = r → Hid (∀ W, Below w.heap.size w W → Calls Try.prog 50 #[.agg #[.int .i64 ct, .int .i64 co, .int .i64 cp, .slice a cd.length c], .agg #[.int .i64 0, .int .i64 0, .int .i64 0, .slice none 0 0]] W fun e w' => e = .returned (.bool r) ∧ Below W.heap.size W w') := fun r hr W hW => hr ▸ rsameCmd_w ct co cp 0 0 0 (hc.below hW (Nat.le_refl _)) (Sl.nil _ _)
  have HE : Hid (Dk.validC (false, (ct, co, cp, cd), l, (0, la, ld)) = (decide (((ct, co, cp, cd) : Dk.Cm) = Dk.zcm) && decide (l = 0))) := by
    show _ = _
    unfold Dk.validC
    rw [if_neg (by simp), if_neg (by simp)]
  generalize Dk.validC (false, (ct, co, cp, cd), l, (0, la, ld)) = r at *
  clear hc
  cases h1 : decide (((ct, co, cp, cd) : Dk.Cm) = Dk.zcm)
  all_goals
    have HS := HSC _ h1
    rw [h1] at HE
    clear h1 HSC
    go_enter Try.func41, Try.ntmps41
    go_wp2_with (first
      | (go_at_call 50; (with_reducible refine (HS.out _ HL.out).mono ?_); rintro e w2 ⟨rfl, hb2⟩; have y5 := (HK.out.below hb2 HK.out.lt).cell 5; simp only [List.getElem?_cons_succ, List.getElem?_cons_zero] at y5))
    all_goals (try go_wp2)
  all_goals
    go_ret
    refine ⟨ret_bool ?_, stepAny HL.out hb2⟩
    rw [HE.out]
    clear HE HL HK HS
    first | rfl | (simp; done) | (simp [*]; done) | (rw [Bool.eq_iff_iff]; simp; done) | (simp [*]; omega) | (simp <;> omega)

set_option maxHeartbeats 3200000 in
theorem rcv_nt (ct : Int) (co cp l lt la : Int) {uc ul : Value} {cd ld : List UInt8} {w : World} (hc : Sl eb w uc cd) (hlt : (lt != 0) = true) (hp : Dk.prop lt = true) :
    Calls Try.prog 41 #[.agg #[.bool true, .int .i64 ct, .int .i64 co, .int .i64 cp, uc, .int .i64 l, .int .i64 lt, .int .i64 la, ul], .int .i64 0, .int .i64 3] w fun e w' => e = .returned (.bool (Dk.validC (true, (ct, co, cp, cd), l, (lt, la, ld)))) ∧ Below w.heap.size w w' := by
  obtain ⟨a, c, rfl, -⟩ := id hc
  have HL : Hid (Below w.heap.size w (w.alloc (.cells #[.bool true, .int .i64 ct, .int .i64 co, .int .i64 cp, .slice a cd.length c, .int .i64 l, .int .i64 lt, .int .i64 la, ul] 29 (0, 0)))) := low_alloc _ _
  have HK : Hid (Bk (w.alloc (.cells #[.bool true, .int .i64 ct, .int .i64 co, .int .i64 cp, .slice a cd.length c, .int .i64 l, .int .i64 lt, .int .i64 la, ul] 29 (0, 0))) w.heap.size 29 [.bool true, .int .i64 ct, .int .i64 co, .int .i64 cp, .slice a cd.length c, .int .i64 l, .int .i64 lt, .int .i64 la, ul]) := Bk.new _ _ [_, _, _, _, _, _, _, _, _]
  have HP0 := Lib.hid (fun W => hp ▸ rproper_w lt W)
  have HP1 := Lib.hid (fun W => rproper_w ct W)
  have HE : Hid (Dk.validC (true, (ct, co, cp, cd), l, (lt, la, ld)) = (Dk.prop ct && (decide (lt ≤ ct) && (decide (1 ≤ l) && decide (l ≤ 3))))) := by
    show _ = _
    unfold Dk.validC
    rw [if_neg (by simp [hp]), if_pos rfl]
  generalize Dk.validC (true, (ct, co, cp, cd), l, (lt, la, ld)) = r at *
  clear hc hp
  cases h1 : Dk.prop ct
  all_goals
    rw [h1] at HP1 HE
    clear h1
    go_enter Try.func41, Try.ntmps41
    go_wp2_with (first
      | (go_at_call 33; (with_reducible refine (HP0.out _).mono ?_); rintro e w1 ⟨rfl, rfl⟩)
      | (go_at_call 33; (with_reducible refine (HP1.out _).mono ?_); rintro e w1 ⟨rfl, rfl⟩))
    all_goals (try go_wp2)
  all_goals
    go_ret
    refine ⟨ret_bool ?_, HL.out⟩
    rw [HE.out]
    clear HP1 HE HL HK
    first | rfl | (simp; done) | (simp [*]; done) | (rw [Bool.eq_iff_iff]; simp; done) | (simp [*]; omega) | (simp <;> omega)

set_option maxHeartbeats 3200000 in
theorem rcv_nf (ct : Int) (co cp l lt la : Int) {uc ul : Value} {cd ld : List UInt8} {w : World} (hc : Sl eb w uc cd) (hlt : (lt != 0) = true) (hp : Dk.prop lt = true) :
    Calls Try.prog 41 #[.agg #[.bool false, .int .i64 ct, .int .i64 co, .int .i64 cp, uc, .int .i64 l, .int .i64 lt, .int .i64 la, ul], .int .i64 0, .int .i64 3] w fun e w' => e = .returned (.bool (Dk.validC (false, (ct, co, cp, cd), l, (lt, la, ld)))) ∧ Below w.heap.size w w' := by
  obtain ⟨a, c, rfl, -⟩ := id hc
  have HL : Hid (Below w.heap.size w (w.alloc (.cells #[.bool false, .int .i64 ct, .int .i64 co, .int .i64 cp, .slice a cd.length c, .int .i64 l, .int .i64 lt, .int .i64 la, ul] 29 (0, 0)))) := low_alloc _ _
  have HK : Hid (Bk (w.alloc (.cells #[.bool false, .int .i64 ct, .int .i64 co, .int .i64 cp, .slice a cd.length c, .int .i64 l, .int .i64 lt, .int .i64 la, ul] 29 (0, 0))) w.heap.size 29 [.bool false, .int .i64 ct, .int .i64 co, .int .i64 cp, .slice a cd.length c, .int .i64 l, .int .i64 lt, .int .i64 la, ul]) := Bk.new _ _ [_, _, _, _, _, _, _, _, _]
  have HP0 := Lib.hid (fun W => hp ▸ rproper_w lt W)
  have HSC : ∀ r, decide (((ct, co, cp, cd) : Dk.Cm) = Dk.zcm) = r → Hid (∀ W, Below w.heap.size w W → Calls Try.prog 50 #[.agg #[.int .i64 ct, .int .i64 co, .int .i64 cp, .slice a cd.length c], .agg #[.int .i64 0, .int .i64 0, .int .i64 0, .slice none 0 0]] W fun e w' => e = .returned (.bool r) ∧ Below W.heap.size W w') := fun r hr W hW => hr ▸ rsameCmd_w ct co cp 0 0 0 (hc.below hW (Nat.le_refl _)) (Sl.nil _ _)
  have HE : Hid (Dk.validC (false, (ct, co, cp, cd), l, (lt, la, ld)) = (decide (((ct, co, cp, cd) : Dk.Cm) = Dk.zcm) && decide (l = 0))) := by
    show _ = _
    unfold Dk.validC
    rw [if_neg (by simp [hp]), if_neg (by simp)]
  generalize Dk.validC (false, (ct, co, cp, cd), l, (lt, la, ld)) = r at *
  clear hc hp
  cases h1 : decide (((ct, co, cp, cd) : Dk.Cm) = Dk.zcm)
  all_goals
    have HS := HSC _ h1
    rw [h1] at HE
    clear h1 HSC
    go_enter Try.func41, Try.ntmps41
    go_wp2_with (first
      | (go_at_call 33; (with_reducible refine (HP0.out _).mono ?_); rintro e w1 ⟨rfl, rfl⟩)
      | (go_at_call 50; (with_reducible refine (HS.out _ HL.out).mono ?_); rintro e w2 ⟨rfl, hb2⟩; have y5 := (HK.out.below hb2 HK.out.lt).cell 5; simp only [List.getElem?_cons_succ, List.getElem?_cons_zero] at y5))
    all_goals (try go_wp2)
  all_goals
    go_ret
    refine ⟨ret_bool ?_, stepAny HL.out hb2⟩
    rw [HE.out]
    clear HE HL HK HS
    first | rfl | (simp; done) | (simp [*]; done) | (rw [Bool.eq_iff_iff]; simp; done) | (simp [*]; omega) | (simp <;> omega)

set_option maxHeartbeats 3200000 in
theorem rcv_bad (o : Bool) (ct : Int) (co cp l lt la : Int) {uc ul : Value} {cd ld : List UInt8} {w : World} (hc : Sl eb w uc cd) (hlt : (lt != 0) = true) (hp : Dk.prop lt = false) :
    Calls Try.prog 41 #[.agg #[.bool o, .int .i64 ct, .int .i64 co, .int .i64 cp, uc, .int .i64 l, .int .i64 lt, .int .i64 la, ul], .int .i64 0, .int .i64 3] w fun e w' => e = .returned (.bool (Dk.validC (o, (ct, co, cp, cd), l, (lt, la, ld)))) ∧ Below w.heap.size w w' := by
  obtain ⟨a, c, rfl, -⟩ := id hc
  have HL : Hid (Below w.heap.size w (w.alloc (.cells #[.bool o, .int .i64 ct, .int .i64 co, .int .i64 cp, .slice a cd.length c, .int .i64 l, .int .i64 lt, .int .i64 la, ul] 29 (0, 0)))) := low_alloc _ _
  have HK : Hid (Bk (w.alloc (.cells #[.bool o, .int .i64 ct, .int .i64 co, .int .i64 cp, .slice a cd.length c, .int .i64 l, .int .i64 lt, .int .i64 la, ul] 29 (0, 0))) w.heap.size 29 [.bool o, .int .i64 ct, .int .i64 co, .int .i64 cp, .slice a cd.length c, .int .i64 l, .int .i64 lt, .int .i64 la, ul]) := Bk.new _ _ [_, _, _, _, _, _, _, _, _]
  have HP0 := Lib.hid (fun W => hp ▸ rproper_w lt W)
  have HE : Hid (Dk.validC (o, (ct, co, cp, cd), l, (lt, la, ld)) = false) := by
    show _ = _
    unfold Dk.validC
    rw [if_pos (by have := bne_iff_ne.1 hlt; simp [hp, this])]
  generalize Dk.validC (o, (ct, co, cp, cd), l, (lt, la, ld)) = r at *
  clear hc hp
  go_enter Try.func41, Try.ntmps41
  go_wp2_with (go_at_call 33; (with_reducible refine (HP0.out _).mono ?_); rintro e w1 ⟨rfl, rfl⟩)
  go_ret
  exact ⟨ret_bool HE.out.symm, HL.out⟩

theorem rcvalid_w (o : Bool) (ct co cp l lt la : Int) {uc ul : Value} {cd ld : List UInt8} {w : World} (hc : Sl eb w uc cd) :
    Calls Try.prog 41 #[.agg #[.bool o, .int .i64 ct, .int .i64 co, .int .i64 cp, uc, .int .i64 l, .int .i64 lt, .int .i64 la, ul], .int .i64 0, .int .i64 3] w fun e w' => e = .returned (.bool (Dk.validC (o, (ct, co, cp, cd), l, (lt, la, ld)))) ∧ Below w.heap.size w w' := by
  by_cases hz : lt = 0
  · subst hz
    cases o
    · exact rcv_zf ct co cp l la hc
    · exact rcv_zt ct co cp l la hc
  · have hz' : (lt != 0) = true := by rw [bne_iff_ne]; exact hz
    cases hp : Dk.prop lt
    · exact rcv_bad o ct co cp l lt la hc hz' hp
    · cases o
      · exact rcv_nf ct co cp l lt la hc hz' hp
      · exact rcv_nt ct co cp l lt la hc hz' hp

set_option maxRecDepth 100000 in
set_option maxHeartbeats 1600000 in
theorem rvalid_w (o : Bool) (ct co cp l lt la : Int) {ub uc ul : Value} {bs : List (List UInt8)} {cd ld : List UInt8} {w : World} (h : Dr w ub uc ul bs cd ld) :
    Calls Try.prog 18 #[.agg #[ub, .bool o, .int .i64 ct, .int .i64 co, .int .i64 cp, uc, .int .i64 l, .int .i64 lt, .int .i64 la, ul]] w fun e w' => e = .returned (.bool (Dk.valid (bs, (o, (ct, co, cp, cd), l, (lt, la, ld))))) ∧ Below w.heap.size w w' := by
  have HFC : Hid (∀ W, Below w.heap.size w W → Calls Try.prog 41 #[.agg #[.bool o, .int .i64 ct, .int .i64 co, .int .i64 cp, uc, .int .i64 l, .int .i64 lt, .int .i64 la, ul], .int .i64 0, .int .i64 3] W fun e w' => e = .returned (.bool (Dk.validC (o, (ct, co, cp, cd), l, (lt, la, ld)))) ∧ Below W.heap.size W w') := fun W hW => rcvalid_w o ct co cp l lt la (h.c.below hW (Nat.le_refl _))
  obtain ⟨a2, c2, rfl, -⟩ := id h.c
  obtain ⟨a3, c3, rfl, -⟩ := id h.l
  obtain ⟨a, cap, rfl, hc, hcm, hna, hel⟩ := h.b.open
  have HE := Lib.hid hel
  clear hel h hna
  unfold maxLen at hcm
  go_enter Try.func18, Try.ntmps18
  go_wp2
  go_loop [3] (fun s3 => ∃ k : Nat, s3 = .int .i64 k ∧ k ≤ bs.length ∧ Hid (∀ j (hj : j < bs.length), j < k → bs[j].length = 128)) (fun s3 => bs.length - (intOf s3).toNat)
  case atStart => exact ⟨0, rfl, Nat.zero_le _, fun j _ h => absurd h (Nat.not_lt_zero _)⟩
  case round =>
    obtain ⟨k, rfl, hk, HN⟩ := hrel
    by_cases hlt : k < bs.length
    · obtain ⟨b, off, a', c', rfl, hb, hck, _⟩ := HE.out k hlt
      have f1 : (0 : Int) ≤ (k : Int) := by omega
      have f2 : (k : Int) < (bs.length : Int) := by omega
      by_cases hg : bs[k].length = 128
      · have HN2 : Hid (∀ j (hj : j < bs.length), j < k + 1 → bs[j].length = 128) := fun j hj hjk => by
          by_cases e : j = k
          · subst e; exact hg
          · exact HN.out j hj (by omega)
        have f3 : ((bs[k].length : Int) != 128) = false := by rw [hg]; rfl
        clear hg
        go_wp2
        go_round
        case rel => exact ⟨k + 1, by go_num, by omega, HN2⟩
        case measure => simp [intOf]; omega
      · have HF := Lib.hid (Dk.valid_no (c := (o, (ct, co, cp, cd), l, (lt, la, ld))) hlt hg)
        have f3 : ((bs[k].length : Int) != 128) = true := by rw [bne_iff_ne]; omega
        clear hg
        go_wp2
        go_ret
        exact ⟨ret_bool HF.out.symm, low_alloc _ _⟩
    · have HF := Lib.hid (Dk.valid_all (c := (o, (ct, co, cp, cd), l, (lt, la, ld))) (fun j hj => HN.out j hj (by omega)))
      by_cases h160 : bs.length = 160
      · have HD : Hid (decide (bs.length = 160) = true) := decide_eq_true h160
        have f3 : ((bs.length : Int) == 160) = true := by rw [h160]; rfl
        clear h160
        go_wp2_with (go_at_call 41; (with_reducible refine (HFC.out _ (low_alloc _ _)).mono ?_); rintro e w1 ⟨rfl, hb1⟩)
        go_ret
        refine ⟨ret_bool ?_, stepAny (low_alloc _ _) hb1⟩
        have := HF.out
        rw [HD.out, Bool.true_and] at this
        exact this.symm
      · have HD : Hid (decide (bs.length = 160) = false) := decide_eq_false h160
        have f3 : ((bs.length : Int) == 160) = false := by simp; omega
        clear h160
        go_wp2_with fail
        go_ret
        refine ⟨ret_bool ?_, low_alloc _ _⟩
        have := HF.out
        rw [HD.out, Bool.false_and] at this
        exact this.symm

theorem rdur_w (t q p : Int) {ux : Value} {xs : List UInt8} {w : World} (hp : -9223372036854775808 ≤ p ∧ p ≤ 9223372036854775807) (hx : Sl eb w ux xs) : Calls Try.prog 35 #[.agg #[.int .i64 t, .int .i64 q, .int .i64 p, ux]] w fun e w' => e = .returned (.int .i64 (Dk.dur (t, q, p, xs))) ∧ Below w.heap.size w w' := by
  obtain ⟨a, c, rfl, -⟩ := hx
  obtain ⟨hp1, hp2⟩ := hp
  have HE : Hid (Dk.dur (t, q, p, xs) = if Dk.blk p = true then 1 + p.tmod 3 else 1) := rfl
  have HB := Lib.hid (fun W => rblock_w p W)
  have HT : Hid (∀ h : Dk.blk p = true, 0 ≤ p ∧ p < 160) := fun h => by unfold Dk.blk at h; simpa using h
  generalize Dk.dur (t, q, p, xs) = r at *
  cases hb : Dk.blk p with
  | false =>
    rw [hb] at HB HE
    clear hb HT
    go_enter Try.func35, Try.ntmps35
    go_wp2_with (go_at_call 27; (with_reducible refine (HB.out _).mono ?_); rintro e w1 ⟨rfl, rfl⟩)
    go_ret
    exact ⟨ret_int (by rw [HE.out]; rfl), low_alloc _ _⟩
  | true =>
    obtain ⟨h1, h2⟩ := HT.out hb
    rw [hb] at HB HE
    have ht : p.tmod 3 = p % 3 := Int.tmod_eq_emod_of_nonneg h1
    clear hb HT
    go_enter Try.func35, Try.ntmps35
    go_wp2_with (go_at_call 27; (with_reducible refine (HB.out _).mono ?_); rintro e w1 ⟨rfl, rfl⟩)
    go_ret
    exact ⟨ret_int (by rw [HE.out]; simp [ht]), low_alloc _ _⟩

set_option maxRecDepth 100000 in
set_option maxHeartbeats 1600000 in
theorem from_w (o : Bool) (ct co cp l lt la : Int) (a1 a2 a3 : Option Addr) (n1 c1 n2 c2 n3 c3 : Nat) (w : World) :
    Calls Try.prog 16 #[.agg #[.slice a1 n1 c1, .bool o, .int .i64 ct, .int .i64 co, .int .i64 cp, .slice a2 n2 c2, .int .i64 l, .int .i64 lt, .int .i64 la, .slice a3 n3 c3]] w fun e w' => e = .returned (.agg #[.slice a1 n1 c1, .bool o, .int .i64 ct, .int .i64 co, .int .i64 cp, .slice a2 n2 c2, .int .i64 l, .int .i64 lt, .int .i64 la, .slice a3 n3 c3]) ∧ Below w.heap.size w w' := by
  go_enter Try.func16, Try.ntmps16
  go_wp2_with fail
  refine bodyPost_ret (v := .agg #[.slice a1 n1 c1, .bool o, .int .i64 ct, .int .i64 co, .int .i64 cp, .slice a2 n2 c2, .int .i64 l, .int .i64 lt, .int .i64 la, .slice a3 n3 c3]) (by simp [results, Try.results16, go_sem]) rfl ⟨rfl, ?_⟩
  exact ((low_alloc _ _).alloc (by simp) _).alloc (by simp; omega) _
end Go.Proofs.Yteeoonoccklhmaa
