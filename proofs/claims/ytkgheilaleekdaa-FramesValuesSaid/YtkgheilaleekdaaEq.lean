/-
  The walks of the reference's Equal, of slices.EqualFunc and of frames.Equal.
-/
import Derived.Test.YtkgheilaleekdaaBytes
namespace Go.Proofs.Ytkgheilaleekdaa
open Go.RowKit

theorem boxes2 {w w' : World} {u v : Value} {T S : TypeId} {fr fs : Nat × Nat} (hb : Below ((w.alloc (.cells #[u] T fr)).alloc (.cells #[v] S fs)).heap.size ((w.alloc (.cells #[u] T fr)).alloc (.cells #[v] S fs)) w') :
    Below w.heap.size w w' ∧ w'.cell? ⟨w.heap.size, 0, none⟩ = some u ∧ w'.cell? ⟨w.heap.size + 1, 0, none⟩ = some v := by
  have hb0 : Below w.heap.size w ((w.alloc (.cells #[u] T fr)).alloc (.cells #[v] S fs)) := ((Below.refl _ w).alloc (Nat.le_refl _) _).alloc (by simp) _
  refine ⟨hb0.trans (hb.mono hb0.size), ?_, ?_⟩
  · rw [hb.cell (p := ⟨w.heap.size, 0, none⟩) (by simp; omega), World.cell?_alloc_lt _ _ _ (by simp), cell_of_row _ _ _ _ _ _ (heap_alloc_new w _)]; rfl
  · rw [hb.cell (p := ⟨w.heap.size + 1, 0, none⟩) (by simp)]
    have := heap_alloc_new (w.alloc (.cells #[u] T fr)) (.cells #[v] S fs)
    rw [show (w.alloc (.cells #[u] T fr)).heap.size = w.heap.size + 1 by simp] at this
    rw [cell_of_row _ _ _ _ _ _ this]; rfl

set_option maxHeartbeats 800000 in
theorem requal_w {va vb : Value} {ps qs : List (List UInt8)} {w : World} (ha : Pg w va ps) (hb : Pg w vb qs) :
    Calls Try.prog 18 #[.agg #[va], .agg #[vb]] w fun e w' => e = .returned (.bool (decide (ps = qs))) ∧ Below w.heap.size w w' := by
  have HA := Lib.hid ha
  have HB := Lib.hid hb
  obtain ⟨a, ca, rfl, ha1, ha2, ha3, -⟩ := ha.open
  obtain ⟨b, cb, rfl, hb1, hb2, hb3, -⟩ := hb.open
  clear ha hb
  unfold maxLen at ha2 hb2
  by_cases hl : ps.length = qs.length
  · have hne : ((ps.length : Int) != (qs.length : Int)) = false := by simp [hl]
    have HL := Lib.hid hl
    clear hl
    go_enter Try.func18, Try.ntmps18
    go_wp2
    go_loopw [5] (fun i wr => ∃ k : Nat, k ≤ ps.length ∧ i = .int .i64 k ∧ Hid (∀ j (hj : j < ps.length) (hj' : j < qs.length), j < k → ps[j] = qs[j]) ∧ Below ((w.alloc (.cells #[.slice a ps.length ca] 24 (0, 0))).alloc (.cells #[.slice b qs.length cb] 24 (0, 0))).heap.size ((w.alloc (.cells #[.slice a ps.length ca] 24 (0, 0))).alloc (.cells #[.slice b qs.length cb] 24 (0, 0))) wr) (fun i _ => ps.length - (intOf i).toNat)
    case atStart => exact ⟨0, Nat.zero_le _, rfl, fun j _ _ hj => absurd hj (Nat.not_lt_zero _), Below.refl _ _⟩
    case round =>
      obtain ⟨k, hk, rfl, HN, hbr⟩ := hrel
      obtain ⟨hbw, hc1, hc2⟩ := boxes2 hbr
      by_cases hlt : k < ps.length
      · have hlt' : k < qs.length := by have := HL.out; omega
        obtain ⟨_, _, e1, _, _, _, hel1⟩ := (HA.out.below hbw (Nat.le_refl _)).open
        obtain ⟨_, _, e2, _, _, _, hel2⟩ := (HB.out.below hbw (Nat.le_refl _)).open
        injection e1 with e1a _ e1c
        injection e2 with e2a _ e2c
        subst e1a e1c e2a e2c
        obtain ⟨b1, off1, a1, c1, rfl, hbl1, hk1, q1, q2, q3, q4⟩ := hel1 k hlt
        obtain ⟨b2, off2, a2, c2, rfl, hbl2, hk2, r1, r2, r3, r4⟩ := hel2 k hlt'
        clear hel1 hel2
        have f1 : (0 : Int) ≤ (k : Int) := by omega
        have f2 : (k : Int) < (ps.length : Int) := by omega
        have f3 : (k : Int) < (qs.length : Int) := by omega
        have HQ : Hid (∀ n, Calls Try.prog 15 #[.slice a1 ps[k].length c1, .slice a2 qs[k].length c2] (wr.drewN n) fun e w' => e = .returned (.bool (decide (ps[k] = qs[k]))) ∧ ∃ m, w' = (wr.drewN n).drewN m) := fun n =>
          sameBytes_q _ _ _ _ (wr.drewN n) ⟨a1, c1, rfl, q1, q2, q3, q4⟩ ⟨a2, c2, rfl, r1, r2, r3, r4⟩
        clear q4 r4
        by_cases he : ps[k] = qs[k]
        · rw [decide_eq_true he] at HQ
          have HE := Lib.hid he
          clear he
          go_wp2_with fail
          go_quiet ((go_at_call 15; exact Calls.quiet_of (HQ.out _)))
          go_wp2
          go_roundw
          case rel => exact ⟨k + 1, by omega, by go_num, fun j hj hj' hjk => by by_cases e : j = k; { subst e; exact HE.out }; exact HN.out j hj hj' (by omega), ⟨hbr.os, hbr.tape, hbr.output, hbr.size, hbr.block⟩⟩
          case measure => simp [intOf]; omega
        · rw [decide_eq_false he] at HQ
          have HE := Lib.hid he
          clear he
          go_wp2_with fail
          go_quiet ((go_at_call 15; exact Calls.quiet_of (HQ.out _)))
          go_wp2
          go_ret
          refine ⟨ret_bool ?_, ⟨hbw.os, hbw.tape, hbw.output, hbw.size, hbw.block⟩⟩
          symm
          rw [decide_eq_false_iff_not]
          intro e
          subst e
          exact HE.out rfl
      · go_wp2
        go_ret
        refine ⟨ret_bool ?_, hbw⟩
        symm
        rw [decide_eq_true_iff]
        exact List.ext_getElem HL.out fun j h1 h2 => HN.out j h1 h2 (by omega)
  · have hne : ((ps.length : Int) != (qs.length : Int)) = true := by rw [bne_iff_ne]; omega
    have HL := Lib.hid hl
    clear hl
    go_enter Try.func18, Try.ntmps18
    go_wp2
    go_ret
    refine ⟨ret_bool ?_, ((Below.refl _ _).alloc (Nat.le_refl _) _).alloc (by simp) _⟩
    symm
    rw [decide_eq_false_iff_not]
    intro e
    subst e
    exact HL.out rfl

theorem requal_t {va vb : Value} {ps : List (List UInt8)} {w : World} (ha : Pg w va ps) (hb : Pg w vb ps) :
    Calls Try.prog 18 #[.agg #[va], .agg #[vb]] w fun e w' => e = .returned (.bool true) ∧ Below w.heap.size w w' :=
  (requal_w ha hb).mono fun _ _ ⟨h, h'⟩ => ⟨by rw [h, decide_eq_true rfl], h'⟩

set_option maxHeartbeats 400000 in
theorem equalFunc_w (a b : Option Addr) (ca cb : Nat) (xs ys : List Value) (g : Nat) (lb : Array Value) (p : Nat → Bool) (r : Bool) (w : World) (hm : xs.length ≤ 9223372036854775807) (hm' : ys.length ≤ 9223372036854775807)
    (eg : ∀ args w, (callFunc g args).run Try.prog w = .ok (.enter g args) w)
    (hra : Rd id w a xs) (hrb : Rd id w b ys) (hr : r = true ↔ xs.length = ys.length ∧ ∀ k, k < xs.length → p k = true)
    (hp : ∀ k (hx : k < xs.length) (hy : k < ys.length), Calls Try.prog g (#[xs[k], ys[k]] ++ lb) w fun e W' => e = .returned (.bool (p k)) ∧ w = W') :
    Calls Try.prog 41 #[.slice a xs.length ca, .slice b ys.length cb, .func (.func g) #[] lb] w fun e w' => e = .returned (.bool r) ∧ w = w' := by
  have HP := Lib.hid hp
  have HR := Lib.hid hr
  clear hp hr
  by_cases hl : xs.length = ys.length
  · have hne : ((xs.length : Int) != (ys.length : Int)) = false := by simp [hl]
    have HL := Lib.hid hl
    clear hl
    go_enter Try.func41, Try.ntmps41
    go_wp2
    go_loop [7, 8, 9, 17] (fun _ _ _ i => ∃ k : Nat, k ≤ xs.length ∧ i = .int .i64 k ∧ Hid (∀ j, j < k → p j = true)) (fun _ _ _ i => xs.length - (intOf i).toNat)
    case atStart => exact ⟨0, Nat.zero_le _, rfl, fun j hj => absurd hj (Nat.not_lt_zero _)⟩
    case round =>
      obtain ⟨k, hk, rfl, HN⟩ := hrel
      by_cases hlt : k < xs.length
      · have hlt' : k < ys.length := by have := HL.out; omega
        have HC := HP.out k hlt hlt'
        obtain ⟨b1, off1, rfl, hbl1, hc1⟩ := hra.form (by omega)
        obtain ⟨b2, off2, rfl, hbl2, hc2⟩ := hrb.form (by omega)
        have hk1 : w.cell? ⟨b1, off1 + k, none⟩ = some xs[k] := hc1 k hlt
        have hk2 : w.cell? ⟨b2, off2 + k, none⟩ = some ys[k] := hc2 k hlt'
        clear hc1 hc2
        have f1 : (0 : Int) ≤ (k : Int) := by omega
        have f2 : (k : Int) < (xs.length : Int) := by omega
        have f3 : (k : Int) < (ys.length : Int) := by omega
        generalize hpv : p k = pv at HC
        have HPV := Lib.hid hpv
        clear hpv
        cases pv with
        | true =>
          go_wp2_with (go_at_fn g; refine HC.mono ?_; rintro e w1 ⟨rfl, rfl⟩)
          go_round
          case rel => exact ⟨k + 1, by omega, by go_num, fun j hj => by by_cases e : j = k; { subst e; exact HPV.out }; exact HN.out j (by omega)⟩
          case measure => simp [intOf]; omega
        | false =>
          go_wp2_with (go_at_fn g; refine HC.mono ?_; rintro e w1 ⟨rfl, rfl⟩)
          go_ret
          refine ⟨ret_bool ?_, rfl⟩
          symm
          rw [Bool.eq_false_iff]
          intro h
          have := (HR.out.1 h).2 k hlt
          rw [HPV.out] at this
          cases this
      · go_wp2
        go_ret
        exact ⟨ret_bool (HR.out.2 ⟨HL.out, fun j hj => HN.out j (by omega)⟩).symm, rfl⟩
  · have hne : ((xs.length : Int) != (ys.length : Int)) = true := by rw [bne_iff_ne]; omega
    have HL := Lib.hid hl
    clear hl
    go_enter Try.func41, Try.ntmps41
    go_wp2
    go_ret
    refine ⟨ret_bool ?_, rfl⟩
    symm
    rw [Bool.eq_false_iff]
    intro h
    exact HL.out (HR.out.1 h).1

set_option maxHeartbeats 400000 in
theorem fequal_w {va vb : Value} {ps qs : List (List UInt8)} {w : World} (ha : Pg w va ps) (hb : Pg w vb qs) :
    Calls Try.prog 29 #[.agg #[va], .agg #[vb]] w fun e w' => e = .returned (.bool (decide (ps = qs))) ∧ Below w.heap.size w w' := by
  have eg := enters_of Try.func42 (by kernel_rfl) rfl
  obtain ⟨va', sa, hla, hea⟩ := ha
  obtain ⟨vb', sb, hlb, heb⟩ := hb
  obtain ⟨a, ca, rfl, ha1, ha2, ha3, hra⟩ := sa
  obtain ⟨b, cb, rfl, hb1, hb2, hb3, hrb⟩ := sb
  unfold maxLen at ha2 hb2
  have HB : Hid (Below w.heap.size w ((w.alloc (.cells #[.slice a va'.length ca] 30 (0, 0))).alloc (.cells #[.slice b vb'.length cb] 30 (0, 0)))) := ((Below.refl _ _).alloc (Nat.le_refl _) _).alloc (by simp) _
  have HX := Lib.hid (equalFunc_w a b ca cb va' vb' 42 #[] (fun k => decide (ps.getD k [] = qs.getD k [])) (decide (ps = qs)) ((w.alloc (.cells #[.slice a va'.length ca] 30 (0, 0))).alloc (.cells #[.slice b vb'.length cb] 30 (0, 0))) (by omega) (by omega) eg (hra.below HB.out (Nat.le_refl _)) (hrb.below HB.out (Nat.le_refl _))
    (by
      rw [decide_eq_true_iff, hla, hlb]
      constructor
      · rintro rfl; exact ⟨rfl, fun k _ => by simp⟩
      · rintro ⟨h1, h2⟩
        refine List.ext_getElem h1 fun j h3 h4 => ?_
        have := h2 j h3
        simpa [List.getD, h3, h4] using this)
    (fun k hx hy => by
      have e1 : ps.getD k [] = ps[k]'(by omega) := by simp [List.getD, show k < ps.length by omega]
      have e2 : qs.getD k [] = qs[k]'(by omega) := by simp [List.getD, show k < qs.length by omega]
      rw [e1, e2]
      exact bequal_w _ _ _ _ _ ((hea k hx (by omega)).below HB.out (Nat.le_refl _)) ((heb k hy (by omega)).below HB.out (Nat.le_refl _))))
  clear hea heb hra hrb hla hlb
  generalize decide (ps = qs) = r at *
  go_enter Try.func29, Try.ntmps29
  go_wp2_with (go_at_call 41; refine HX.out.mono ?_; rintro e w' ⟨rfl, rfl⟩)
  go_ret
  exact ⟨rfl, HB.out⟩
end Go.Proofs.Ytkgheilaleekdaa
