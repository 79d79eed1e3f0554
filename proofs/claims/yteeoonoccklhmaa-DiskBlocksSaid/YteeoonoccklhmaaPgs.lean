/-
  The walks of slices.IndexFunc, ContainsFunc and EqualFunc for slices of bytes, and of the reference's Equal of two memories.
-/
import Derived.Test.YteeoonoccklhmaaByt
import Derived.Test.YteeoonoccklhmaaIdx0
import Derived.Test.YteeoonoccklhmaaStep
namespace Go.Proofs.Yteeoonoccklhmaa
open Go.RowKit

set_option maxHeartbeats 400000 in
/-- slices.IndexFunc: `I k` holds of the world before the function is asked of element number k. -/
theorem indexFunc_pg {α : Type} (enc : α → Value) (a : Option Addr) (cap : Nat) (xs : List α) (g : Nat) (lb : Array Value) (p : Nat → Bool) (I : Nat → World → Prop) (w : World) (hm : xs.length ≤ 9223372036854775807)
    (eg : ∀ args w, (callFunc g args).run Try.prog w = .ok (.enter g args) w)
    (hr : ∀ k W, I k W → Rd enc W a xs) (h0 : I 0 w)
    (hp : ∀ k W (hk : k < xs.length), I k W → Calls Try.prog g (#[enc xs[k]] ++ lb) W fun e W' => e = .returned (.bool (p k)) ∧ I (k + 1) W') :
    Calls Try.prog 51 #[.slice a xs.length cap, .func (.func g) #[] lb] w fun e w' => e = .returned (.int .i64 (Ix.idx p xs.length)) ∧ ∃ k, k ≤ xs.length ∧ I k w' := by
  have HP := Lib.hid hp
  have HR := Lib.hid hr
  have H0 := Lib.hid h0
  clear hp hr h0
  go_enter Try.func51, Try.ntmps51
  go_wp2
  go_loopw [5, 8] (fun _ i wr => ∃ k : Nat, k ≤ xs.length ∧ i = .int .i64 k ∧ (∀ j, j < k → p j = false) ∧ I k wr) (fun _ i _ => xs.length - (intOf i).toNat)
  case atStart => exact ⟨0, Nat.zero_le _, rfl, fun j hj => absurd hj (Nat.not_lt_zero _), H0.out⟩
  case round =>
    obtain ⟨k, hk, rfl, hno, hI⟩ := hrel
    have HN := Lib.hid hno
    have HI := Lib.hid hI
    clear hno hI
    by_cases hlt : k < xs.length
    · have HC := HP.out k wr hlt HI.out
      obtain ⟨b, off, rfl, hb, hc⟩ := (HR.out k wr HI.out).form (by omega)
      have hck := hc k hlt
      clear hc
      generalize hpv : p k = pv at HC
      have HPV := Lib.hid hpv
      clear hpv
      cases pv with
      | true =>
        go_wp2_with (go_at_fn g; refine HC.mono ?_; rintro e w1 ⟨rfl, h1⟩)
        have H1 := Lib.hid h1
        clear h1
        go_wp2
        go_ret
        have := Ix.idx_some hlt HPV.out HN.out
        exact ⟨ret_int this.symm, k + 1, hlt, H1.out⟩
      | false =>
        go_wp2_with (go_at_fn g; refine HC.mono ?_; rintro e w1 ⟨rfl, h1⟩)
        have H1 := Lib.hid h1
        clear h1
        go_wp2
        go_roundw
        case rel => exact ⟨k + 1, by omega, by go_num, fun j hj => by by_cases e : j = k; { subst e; exact HPV.out }; exact HN.out j (by omega), H1.out⟩
        case measure => simp [intOf]; omega
    · go_wp2
      go_ret
      have h1 := Ix.idx_none (p := p) (n := xs.length) fun i hi => HN.out i (by omega)
      exact ⟨ret_int h1.symm, k, hk, HI.out⟩

set_option maxHeartbeats 400000 in
theorem containsFunc_pg {α : Type} (enc : α → Value) (a : Option Addr) (cap : Nat) (xs : List α) (g : Nat) (lb : Array Value) (p : Nat → Bool) (I : Nat → World → Prop) (w : World) (hm : xs.length ≤ 9223372036854775807)
    (eg : ∀ args w, (callFunc g args).run Try.prog w = .ok (.enter g args) w)
    (hr : ∀ k W, I k W → Rd enc W a xs) (h0 : I 0 w)
    (hp : ∀ k W (hk : k < xs.length), I k W → Calls Try.prog g (#[enc xs[k]] ++ lb) W fun e W' => e = .returned (.bool (p k)) ∧ I (k + 1) W') :
    Calls Try.prog 39 #[.slice a xs.length cap, .func (.func g) #[] lb] w fun e w' => e = .returned (.bool (Ix.any p xs.length)) ∧ ∃ k, k ≤ xs.length ∧ I k w' := by
  have HX := Lib.hid (indexFunc_pg enc a cap xs g lb p I w hm eg hr h0 hp)
  have HA := Lib.hid (Ix.any_iff p xs.length)
  clear hr h0 hp
  generalize Ix.idx p xs.length = r at *
  go_enter Try.func39, Try.ntmps39
  go_wp2_with (go_at_call 51; refine HX.out.mono ?_; rintro e w' ⟨rfl, h1⟩; have H1 := Lib.hid h1; clear h1)
  go_ret
  exact ⟨ret_bool HA.out.symm, H1.out⟩

theorem boxes2 {w w' : World} {u v : Value} {T S : TypeId} {fr fs : Nat × Nat} (hb : Below ((w.alloc (.cells #[u] T fr)).alloc (.cells #[v] S fs)).heap.size ((w.alloc (.cells #[u] T fr)).alloc (.cells #[v] S fs)) w') :
    Below w.heap.size w w' ∧ w'.cell? ⟨w.heap.size, 0, none⟩ = some u ∧ w'.cell? ⟨w.heap.size + 1, 0, none⟩ = some v := by
  have hb0 : Below w.heap.size w ((w.alloc (.cells #[u] T fr)).alloc (.cells #[v] S fs)) := ((Below.refl _ w).alloc (Nat.le_refl _) _).alloc (by simp) _
  refine ⟨hb0.trans (hb.mono hb0.size), ?_, ?_⟩
  · rw [hb.cell (p := ⟨w.heap.size, 0, none⟩) (by simp; omega), World.cell?_alloc_lt _ _ _ (by simp), cell_of_row _ _ _ _ _ _ (heap_alloc_new w _)]; rfl
  · rw [hb.cell (p := ⟨w.heap.size + 1, 0, none⟩) (by simp)]
    have := heap_alloc_new (w.alloc (.cells #[u] T fr)) (.cells #[v] S fs)
    rw [show (w.alloc (.cells #[u] T fr)).heap.size = w.heap.size + 1 by simp] at this
    rw [cell_of_row _ _ _ _ _ _ this]; rfl

set_option maxHeartbeats 800000 in
theorem requal_w {va vb : Value} {ps qs : List (List UInt8)} {w : World} (ha : Pg w va ps) (hb : Pg w vb qs) :
    Calls Try.prog 37 #[.agg #[va], .agg #[vb]] w fun e w' => e = .returned (.bool (decide (ps = qs))) ∧ Below w.heap.size w w' := by
  have HA := Lib.hid ha
  have HB := Lib.hid hb
  obtain ⟨a, ca, rfl, ha1, ha2, ha3, -⟩ := ha.open
  obtain ⟨b, cb, rfl, hb1, hb2, hb3, -⟩ := hb.open
  clear ha hb
  unfold maxLen at ha2 hb2
  by_cases hl : ps.length = qs.length
  · have hne : ((ps.length : Int) != (qs.length : Int)) = false := by simp [hl]
    have HL := Lib.hid hl
    clear hl
    go_enter Try.func37, Try.ntmps37
    go_wp2
    go_loopw [5] (fun i wr => ∃ k : Nat, k ≤ ps.length ∧ i = .int .i64 k ∧ Hid (∀ j (hj : j < ps.length) (hj' : j < qs.length), j < k → ps[j] = qs[j]) ∧ Below ((w.alloc (.cells #[.slice a ps.length ca] 77 (0, 0))).alloc (.cells #[.slice b qs.length cb] 77 (0, 0))).heap.size ((w.alloc (.cells #[.slice a ps.length ca] 77 (0, 0))).alloc (.cells #[.slice b qs.length cb] 77 (0, 0))) wr) (fun i _ => ps.length - (intOf i).toNat)
    case atStart => exact ⟨0, Nat.zero_le _, rfl, fun j _ _ hj => absurd hj (Nat.not_lt_zero _), Below.refl _ _⟩
    case round =>
      obtain ⟨k, hk, rfl, HN, hbr⟩ := hrel
      obtain ⟨hbw, hc1, hc2⟩ := boxes2 hbr
      by_cases hlt : k < ps.length
      · have hlt' : k < qs.length := by have := HL.out; omega
        obtain ⟨_, _, e1, _, _, _, hel1⟩ := (HA.out.below hbw (Nat.le_refl _)).open
        obtain ⟨_, _, e2, _, _, _, hel2⟩ := (HB.out.below hbw (Nat.le_refl _)).open
        injection e1 with e1a _ e1c
        injection e2 with e2a _ e2c
        subst e1a e1c e2a e2c
        obtain ⟨b1, off1, a1, c1, rfl, hbl1, hk1, q1, q2, q3, q4⟩ := hel1 k hlt
        obtain ⟨b2, off2, a2, c2, rfl, hbl2, hk2, r1, r2, r3, r4⟩ := hel2 k hlt'
        clear hel1 hel2
        have f1 : (0 : Int) ≤ (k : Int) := by omega
        have f2 : (k : Int) < (ps.length : Int) := by omega
        have f3 : (k : Int) < (qs.length : Int) := by omega
        have HQ : Hid (∀ n, Calls Try.prog 24 #[.slice a1 ps[k].length c1, .slice a2 qs[k].length c2] (wr.drewN n) fun e w' => e = .returned (.bool (decide (ps[k] = qs[k]))) ∧ ∃ m, w' = (wr.drewN n).drewN m) := fun n =>
          sameBytes_q _ _ _ _ (wr.drewN n) ⟨a1, c1, rfl, q1, q2, q3, q4⟩ ⟨a2, c2, rfl, r1, r2, r3, r4⟩
        clear q4 r4
        by_cases he : ps[k] = qs[k]
        · rw [decide_eq_true he] at HQ
          have HE := Lib.hid he
          clear he
          go_wp2_with fail
          go_quiet ((go_at_call 24; exact Calls.quiet_of (HQ.out _)))
          go_wp2
          go_roundw
          case rel => exact ⟨k + 1, by omega, by go_num, fun j hj hj' hjk => by by_cases e : j = k; { subst e; exact HE.out }; exact HN.out j hj hj' (by omega), ⟨hbr.os, hbr.tape, hbr.output, hbr.size, hbr.block⟩⟩
          case measure => simp [intOf]; omega
        · rw [decide_eq_false he] at HQ
          have HE := Lib.hid he
          clear he
          go_wp2_with fail
          go_quiet ((go_at_call 24; exact Calls.quiet_of (HQ.out _)))
          go_wp2
          go_ret
          refine ⟨ret_bool ?_, ⟨hbw.os, hbw.tape, hbw.output, hbw.size, hbw.block⟩⟩
          symm
          rw [decide_eq_false_iff_not]
          intro e
          subst e
          exact HE.out rfl
      · go_wp2
        go_ret
        refine ⟨ret_bool ?_, hbw⟩
        symm
        rw [decide_eq_true_iff]
        exact List.ext_getElem HL.out fun j h1 h2 => HN.out j h1 h2 (by omega)
  · have hne : ((ps.length : Int) != (qs.length : Int)) = true := by rw [bne_iff_ne]; omega
    have HL := Lib.hid hl
    clear hl
    go_enter Try.func37, Try.ntmps37
    go_wp2
    go_ret
    refine ⟨ret_bool ?_, ((Below.refl _ _).alloc (Nat.le_refl _) _).alloc (by simp) _⟩
    symm
    rw [decide_eq_false_iff_not]
    intro e
    subst e
    exact HL.out rfl

theorem requal_t {va vb : Value} {ps : List (List UInt8)} {w : World} (ha : Pg w va ps) (hb : Pg w vb ps) :
    Calls Try.prog 37 #[.agg #[va], .agg #[vb]] w fun e w' => e = .returned (.bool true) ∧ Below w.heap.size w w' :=
  (requal_w ha hb).mono fun _ _ ⟨h, h'⟩ => ⟨by rw [h, decide_eq_true rfl], h'⟩

set_option maxHeartbeats 400000 in
theorem equalFunc_w (a b : Option Addr) (ca cb : Nat) (xs ys : List Value) (g : Nat) (lb : Array Value) (p : Nat → Bool) (r : Bool) (w : World) (hm : xs.length ≤ 9223372036854775807) (hm' : ys.length ≤ 9223372036854775807)
    (eg : ∀ args w, (callFunc g args).run Try.prog w = .ok (.enter g args) w)
    (hra : Rd id w a xs) (hrb : Rd id w b ys) (hr : r = true ↔ xs.length = ys.length ∧ ∀ k, k < xs.length → p k = true)
    (hp : ∀ k (hx : k < xs.length) (hy : k < ys.length), Calls Try.prog g (#[xs[k], ys[k]] ++ lb) w fun e W' => e = .returned (.bool (p k)) ∧ w = W') :
    Calls Try.prog 42 #[.slice a xs.length ca, .slice b ys.length cb, .func (.func g) #[] lb] w fun e w' => e = .returned (.bool r) ∧ w = w' := by
  have HP := Lib.hid hp
  have HR := Lib.hid hr
  clear hp hr
  by_cases hl : xs.length = ys.length
  · have hne : ((xs.length : Int) != (ys.length : Int)) = false := by simp [hl]
    have HL := Lib.hid hl
    clear hl
    go_enter Try.func42, Try.ntmps42
    go_wp2
    go_loop [7, 8, 9, 17] (fun _ _ _ i => ∃ k : Nat, k ≤ xs.length ∧ i = .int .i64 k ∧ Hid (∀ j, j < k → p j = true)) (fun _ _ _ i => xs.length - (intOf i).toNat)
    case atStart => exact ⟨0, Nat.zero_le _, rfl, fun j hj => absurd hj (Nat.not_lt_zero _)⟩
    case round =>
      obtain ⟨k, hk, rfl, HN⟩ := hrel
      by_cases hlt : k < xs.length
      · have hlt' : k < ys.length := by have := HL.out; omega
        have HC := HP.out k hlt hlt'
        obtain ⟨b1, off1, rfl, hbl1, hc1⟩ := hra.form (by omega)
        obtain ⟨b2, off2, rfl, hbl2, hc2⟩ := hrb.form (by omega)
        have hk1 : w.cell? ⟨b1, off1 + k, none⟩ = some xs[k] := hc1 k hlt
        have hk2 : w.cell? ⟨b2, off2 + k, none⟩ = some ys[k] := hc2 k hlt'
        clear hc1 hc2
        have f1 : (0 : Int) ≤ (k : Int) := by omega
        have f2 : (k : Int) < (xs.length : Int) := by omega
        have f3 : (k : Int) < (ys.length : Int) := by omega
        generalize hpv : p k = pv at HC
        have HPV := Lib.hid hpv
        clear hpv
        cases pv with
        | true =>
          go_wp2_with (go_at_fn g; refine HC.mono ?_; rintro e w1 ⟨rfl, rfl⟩)
          go_round
          case rel => exact ⟨k + 1, by omega, by go_num, fun j hj => by by_cases e : j = k; { subst e; exact HPV.out }; exact HN.out j (by omega)⟩
          case measure => simp [intOf]; omega
        | false =>
          go_wp2_with (go_at_fn g; refine HC.mono ?_; rintro e w1 ⟨rfl, rfl⟩)
          go_ret
          refine ⟨ret_bool ?_, rfl⟩
          symm
          rw [Bool.eq_false_iff]
          intro h
          have := (HR.out.1 h).2 k hlt
          rw [HPV.out] at this
          cases this
      · go_wp2
        go_ret
        exact ⟨ret_bool (HR.out.2 ⟨HL.out, fun j hj => HN.out j (by omega)⟩).symm, rfl⟩
  · have hne : ((xs.length : Int) != (ys.length : Int)) = true := by rw [bne_iff_ne]; omega
    have HL := Lib.hid hl
    clear hl
    go_enter Try.func42, Try.ntmps42
    go_wp2
    go_ret
    refine ⟨ret_bool ?_, rfl⟩
    symm
    rw [Bool.eq_false_iff]
    intro h
    exact HL.out (HR.out.1 h).1

end Go.Proofs.Yteeoonoccklhmaa
