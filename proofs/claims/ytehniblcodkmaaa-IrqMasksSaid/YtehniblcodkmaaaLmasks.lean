/-
  The walk of IrqMasks.
-/
import Derived.Test.YtehniblcodkmaaaArgs
import Derived.Test.YtehniblcodkmaaaMi
namespace Go.Proofs.Ytehniblcodkmaaa
open Go.RowKit

theorem eqz_masks (m0 m1 m2 m3 m4 : Bool) (W : World) : (Op.equalIn 10000 22 (.agg #[.bool m0, .bool m1, .bool m2, .bool m3, .bool m4]) (.agg #[.bool false, .bool false, .bool false, .bool false, .bool false])).run Try.prog W = .ok (!m0 && (!m1 && (!m2 && (!m3 && !m4)))) W := by
  cases m0 <;> cases m1 <;> cases m2 <;> cases m3 <;> cases m4 <;> kernel_rfl

set_option maxRecDepth 100000 in
set_option maxHeartbeats 8000000 in
theorem lmasks_w {w : World} {v0 v1 : Value} (h0 : IsState w v0) (h1 : IsU8 w v1) :
    Calls Try.prog 5 #[v0, v1] w fun e w' => e = .returned (.bool true) ∧ Below w.heap.size w w' := by
  obtain ⟨m0, m1, m2, m3, m4, u, ls, rfl, hlp, -⟩ := h0
  obtain ⟨n, rfl⟩ := h1
  obtain ⟨a, cap, rfl, hc, hcm, hna, hel⟩ := hlp.open
  have HEL := Lib.hid hel
  have HLP := Lib.hid hlp
  clear hlp hel
  unfold maxLen at hcm
  have HF : Hid (∀ W, Below w.heap.size w W → Calls Try.prog 11 #[.agg #[.bool m0, .bool m1, .bool m2, .bool m3, .bool m4, .slice a ls.length cap]] W fun e w' => e = .returned (.bool (Iq.few ([m0, m1, m2, m3, m4], ls))) ∧ Below W.heap.size W w') := fun W hW => rfew_w (HLP.out.below hW (Nat.le_refl _)) _
  have HV : Hid (∀ W, Below w.heap.size w W → Calls Try.prog 12 #[.agg #[.bool m0, .bool m1, .bool m2, .bool m3, .bool m4, .slice a ls.length cap]] W fun e w' => e = .returned (.bool (Iq.valid ([m0, m1, m2, m3, m4], ls))) ∧ Below W.heap.size W w') := fun W hW => rvalid_w (HLP.out.below hW (Nat.le_refl _))
  have hK0 : Bk (w.alloc (.cells #[.bool m0, .bool m1, .bool m2, .bool m3, .bool m4, .slice a ls.length cap] 25 (0, 0))) w.heap.size 25 (stC m0 m1 m2 m3 m4 (.slice a ls.length cap)) := Bk.new w _ (stC m0 m1 m2 m3 m4 (.slice a ls.length cap))
  have hlow0 : Below w.heap.size w (w.alloc (.cells #[.bool m0, .bool m1, .bool m2, .bool m3, .bool m4, .slice a ls.length cap] 25 (0, 0))) := low_alloc _ _
  have hq := eqz_masks m0 m1 m2 m3 m4
  cases hfew : Iq.few ([m0, m1, m2, m3, m4], ls) with
  | false =>
    rw [hfew] at HF
    clear hfew HV hq
    go_enter Try.func5, Try.ntmps5
    go_wp2_with (first
      | (go_at_call 11; refine (HF.out _ (stepAny hlow0 hb1)).mono ?_; rintro e w2 ⟨rfl, hb2⟩; have tok := True.intro)
      | (go_at_call 10; have _t := tok; refine (awake_w w2).mono ?_; rintro e w3 ⟨rfl, hb3⟩)
      | (go_at_call 10; refine (awake_w _).mono ?_; rintro e w1 ⟨rfl, hb1⟩; obtain ⟨p0, p1, p2, p3, p4, p5, -⟩ := (hK0.below hb1 hK0.lt).box))
    go_ret
    exact ⟨rfl, stepAny (stepAny (stepAny hlow0 hb1) hb2) hb3⟩
  | true =>
    rw [hfew] at HF
    cases hv : Iq.valid ([m0, m1, m2, m3, m4], ls) with
    | false =>
      rw [hv] at HV
      clear hfew hv hq
      go_enter Try.func5, Try.ntmps5
      go_wp2_with (first
        | (go_at_call 11; refine (HF.out _ (stepAny hlow0 hb1)).mono ?_; rintro e w2 ⟨rfl, hb2⟩; obtain ⟨q0, q1, q2, q3, q4, q5, -⟩ := ((hK0.below hb1 hK0.lt).below hb2 (hK0.below hb1 hK0.lt).lt).box)
        | (go_at_call 12; refine (HV.out _ (stepAny (stepAny hlow0 hb1) hb2)).mono ?_; rintro e w4 ⟨rfl, hb4⟩; have tok := True.intro)
        | (go_at_call 10; have _t := tok; refine (awake_w w4).mono ?_; rintro e w3 ⟨rfl, hb3⟩)
        | (go_at_call 10; refine (awake_w _).mono ?_; rintro e w1 ⟨rfl, hb1⟩; obtain ⟨p0, p1, p2, p3, p4, p5, -⟩ := (hK0.below hb1 hK0.lt).box))
      go_ret
      exact ⟨rfl, stepAny (stepAny (stepAny (stepAny hlow0 hb1) hb2) hb4) hb3⟩
    | true =>
      rw [hv] at HV
      cases hz : (!m0 && (!m1 && (!m2 && (!m3 && !m4)))) with
      | false =>
        rw [hz] at hq
        clear hfew hv hz
        go_enter Try.func5, Try.ntmps5
        go_wp2_with (first
          | (go_at_call 11; refine (HF.out _ (stepAny hlow0 hb1)).mono ?_; rintro e w2 ⟨rfl, hb2⟩; obtain ⟨q0, q1, q2, q3, q4, q5, -⟩ := ((hK0.below hb1 hK0.lt).below hb2 (hK0.below hb1 hK0.lt).lt).box)
          | (go_at_call 12; refine (HV.out _ (stepAny (stepAny hlow0 hb1) hb2)).mono ?_; rintro e w4 ⟨rfl, hb4⟩; have tok := True.intro; obtain ⟨r0, r1, r2, r3, r4, r5, -⟩ := (((hK0.below hb1 hK0.lt).below hb2 (hK0.below hb1 hK0.lt).lt).below hb4 ((hK0.below hb1 hK0.lt).below hb2 (hK0.below hb1 hK0.lt).lt).lt).box)
          | (go_at_call 10; have _t := tok; refine (awake_w w4).mono ?_; rintro e w3 ⟨rfl, hb3⟩)
          | (go_at_call 10; refine (awake_w _).mono ?_; rintro e w1 ⟨rfl, hb1⟩; obtain ⟨p0, p1, p2, p3, p4, p5, -⟩ := (hK0.below hb1 hK0.lt).box))
        go_ret
        exact ⟨rfl, stepAny (stepAny (stepAny (stepAny hlow0 hb1) hb2) hb4) hb3⟩
      | true =>
        rw [hz] at hq
        simp only [Bool.and_eq_true, Bool.not_eq_true'] at hz
        obtain ⟨rfl, rfl, rfl, rfl, rfl⟩ := hz
        have hok : Iq.okAll ls = true := (Iq.valid_iff.1 hv).1
        have hl32 : ls.length ≤ 32 := (Iq.valid_iff.1 hv).2.1
        have HOK := Lib.hid hok
        clear hfew hv hok
        have hnb : n.toNat < 256 := n.toNat_lt
        obtain ⟨M, hM, hM1, hM4⟩ : ∃ M : Nat, (1 + (n.toNat : Int) % 4) = (M : Int) ∧ 1 ≤ M ∧ M ≤ 4 := ⟨1 + n.toNat % 4, by omega, by omega, by omega⟩
        obtain ⟨k0, k1, k2, k3, k4, hmk⟩ := mk5 M
        have H3 : Hid (∀ W a5 k5, Lp W (.slice a5 ls.length k5) ls → Calls Try.prog 14 #[.agg #[.bool false, .bool false, .bool false, .bool false, .bool false, .slice a5 ls.length k5], .int .i64 (M : Int), .bool true] W fun e w' => ∃ a k, e = .returned (.tuple #[.agg #[.bool k0, .bool k1, .bool k2, .bool k3, .bool k4, .slice a ls.length k], .int .i64 0]) ∧ LpF W.heap.size w' (.slice a ls.length k) ls ∧ Below W.heap.size W w') := fun W a5 k5 hl =>
          mask_o (M : Int) true hl (by have := Iq.mask_on (m := M) (by omega) hM4 HOK.out hl32; rw [hmk] at this; exact this)
        unfold eb
        have HMK := Lib.hid hmk
        clear hmk
        go_enter Try.func5, Try.ntmps5
        go_upto_region 5 with (first
          | (go_at_call 11; refine (HF.out _ (stepAny hlow0 hb1)).mono ?_; rintro e w2 ⟨rfl, hb2⟩; obtain ⟨q0, q1, q2, q3, q4, q5, -⟩ := ((hK0.below hb1 hK0.lt).below hb2 (hK0.below hb1 hK0.lt).lt).box)
          | (go_at_call 12; refine (HV.out _ (stepAny (stepAny hlow0 hb1) hb2)).mono ?_; rintro e w3 ⟨rfl, hb3⟩; have hK3 := ((hK0.below hb1 hK0.lt).below hb2 (hK0.below hb1 hK0.lt).lt).below hb3 ((hK0.below hb1 hK0.lt).below hb2 (hK0.below hb1 hK0.lt).lt).lt; obtain ⟨r0, r1, r2, r3, r4, r5, -⟩ := hK3.box; have hlow3 := stepAny (stepAny (stepAny hlow0 hb1) hb2) hb3; have hs3 := hK3.lt)
          | (go_at_call 13; refine (to_w (HLP.out.below hlow3 (Nat.le_refl _)) (by omega)).mono ?_; rintro e w4 ⟨a4, kk4, rfl, hl4, hb4⟩; have hK4 := hK3.below hb4 hK3.lt; have hlow4 := stepAny hlow3 hb4)
          | (go_at_call 14; (with_reducible refine (H3.out _ _ _ hl4).mono ?_); rintro e w5 ⟨a5, kk5, rfl, hl5, hb5⟩; have hK5 := hK4.below hb5 hK4.lt; have hlow5 := stepAny hlow4 hb5)
          | (go_at_call 10; refine (awake_w _).mono ?_; rintro e w1 ⟨rfl, hb1⟩; obtain ⟨p0, p1, p2, p3, p4, p5, -⟩ := (hK0.below hb1 hK0.lt).box))
        go_upto_region 9 with fail
        have hPW0 : PW w w5.heap.size (w5.heap.size + 1) k0 k1 k2 k3 k4 (.slice a ls.length cap) (.slice a5 ls.length kk5) [.slice none 0 0, .slice none 0 0] ((w5.alloc (.cells #[.bool k0, .bool k1, .bool k2, .bool k3, .bool k4, .slice a5 ls.length kk5] 30 (0, 0))).alloc (.cells #[.slice none 0 0, .slice none 0 0] 48 (0, 0))) :=
          ⟨(hK5.alloc _).alloc _, (Bk.new w5 _ (stC k0 k1 k2 k3 k4 (.slice a5 ls.length kk5))).alloc _, Bk.newAt _ _ [_, _] (by simp), (hlow5.alloc hlow5.size _).alloc (by have := hlow5.size; simp; omega) _, hK5.lt, by omega⟩
        have hl8 : Lp ((w5.alloc (.cells #[.bool k0, .bool k1, .bool k2, .bool k3, .bool k4, .slice a5 ls.length kk5] 30 (0, 0))).alloc (.cells #[.slice none 0 0, .slice none 0 0] 48 (0, 0))) (.slice a5 ls.length kk5) ls := (hl5.lp.below (low_alloc _ _) (Nat.le_refl _)).below (low_alloc _ _) (Nat.le_refl _)
        have hsz8 : w5.heap.size + 1 < ((w5.alloc (.cells #[.bool k0, .bool k1, .bool k2, .bool k3, .bool k4, .slice a5 ls.length kk5] 30 (0, 0))).alloc (.cells #[.slice none 0 0, .slice none 0 0] 48 (0, 0))).heap.size := by simp
        generalize (w5.alloc (.cells #[.bool k0, .bool k1, .bool k2, .bool k3, .bool k4, .slice a5 ls.length kk5] 30 (0, 0))).alloc (.cells #[.slice none 0 0, .slice none 0 0] 48 (0, 0)) = W8 at *
        generalize w5.heap.size + 1 = b8 at *
        generalize w5.heap.size = b6 at *
        clear hb1 hb2 hb3 hb4 hb5 hK0 hK3 hK4 hK5 hlow0 hlow3 hlow4 hlow5 hs3 p0 p1 p2 p3 p4 p5 q0 q1 q2 q3 q4 q5 r0 r1 r2 r3 r4 r5 hl4 hl5 H3 HF HV hnb hM hq
        have HPS := Lib.hid (fun k (hk : k < 2) => Iq.mask_st hM1 hM4 HOK.out hl32 hk)
        obtain ⟨i0, hi, hz0, hz1, hz2⟩ := info_parts Try.infoRLine
        go_loopw [7, 9, 10, 11, 12, 48] (fun _ _ _ _ _ i wr => ∃ (k : Nat) (x0 x1 x2 x3 x4 : Bool) (a5 : Option Addr) (kk5 : Nat) (u0 u1 : Value), i = .int .i64 k ∧ k ≤ 2 ∧ Hid (Iq.mk (Iq.qk M k) = [x0, x1, x2, x3, x4]) ∧ PW w b6 b8 x0 x1 x2 x3 x4 (.slice a ls.length cap) (.slice a5 (Iq.stk M ls k).length kk5) [u0, u1] wr ∧ Lp wr (.slice a5 (Iq.stk M ls k).length kk5) (Iq.stk M ls k) ∧
            LpF (b8 + 1) wr u0 (if 0 < k then Iq.partk M ls 0 else []) ∧ LpF (b8 + 1) wr u1 (if 1 < k then Iq.partk M ls 1 else []) ∧ Hid (∀ j, k ≤ j → j < 2 → [u0, u1][j]? = some (.slice none 0 0)) ∧ b8 < wr.heap.size) (fun _ _ _ _ _ i _ => 2 - (intOf i).toNat)
        case atStart => exact ⟨0, k0, k1, k2, k3, k4, a5, kk5, _, _, rfl, by omega, HMK.out, hPW0, hl8, LpF.nil, LpF.nil, (fun j h1 h2 => by match j, h2 with | 0, _ => rfl | 1, _ => rfl), by omega⟩
        case round =>
          clear hPW0 hl8 hsz8
          obtain ⟨k, x0, x1, x2, x3, x4, a6, kk6, u0, u1, rfl, hk, HX, hP, hL, hu0, hu1, HN, hsz⟩ := hrel
          rename World => wo
          by_cases hlt : k < 2
          · have HPK := Lib.hid (HPS.out k hlt)
            rw [HX.out] at HPK
            have hcs : ([u0, u1].set k (.slice none 0 0)) = [u0, u1] := by
              have := HN.out k (Nat.le_refl _) hlt
              match k, hlt with
              | 0, _ => simp at this; rw [this]; rfl
              | 1, _ => simp at this; rw [this]; rfl
            have HCK : Hid (∀ v : Value, ([u0, u1].set k v)[k]? = some v) := fun v => by
              match k, hlt with
              | 0, _ => rfl
              | 1, _ => rfl
            have hM0 : MI w b6 b8 wo.heap.size wo x0 x1 x2 x3 x4 (.slice a ls.length cap) (.slice a6 (Iq.stk M ls k).length kk6) (Iq.stk M ls k) ([u0, u1].set k (.slice none 0 0)) (.slice none 0 0) [] ((Iq.partk M ls k).take 0) wo :=
              ⟨by rw [hcs]; exact hP, hL.lpa rfl, Lo.nil, by simp, fun _ _ _ => rfl, hsz, Nat.le_refl _⟩
            have HMI := Lib.hid hM0
            have HST := Lib.hid (Iq.stk_oth (m := M) HOK.out hlt)
            have HSN := Lib.hid (Iq.stk_not (m := M) HOK.out hlt)
            have s5 := hP.s.box.p5
            have f1 : (0 : Int) ≤ (k : Int) := by omega
            have f2 : (k : Int) < (2 : Int) := by omega
            clear hcs hM0 hP hL
            have HU0 := Lib.hid hu0
            have HU1 := Lib.hid hu1
            have HMASK : Hid (∀ W a5 k5, Lp W (.slice a5 (Iq.stk M ls (k + 1)).length k5) (Iq.stk M ls (k + 1)) → Calls Try.prog 14 #[.agg #[.bool x0, .bool x1, .bool x2, .bool x3, .bool x4, .slice a5 (Iq.stk M ls (k + 1)).length k5], .int .i64 (M : Int), .bool false] W fun e w' => ∃ a kk, e = .returned (.tuple #[.agg #[.bool false, .bool false, .bool false, .bool false, .bool false, .slice a (Iq.stk M ls (k + 1)).length kk], .int .i64 0]) ∧ LpF W.heap.size w' (.slice a (Iq.stk M ls (k + 1)).length kk) (Iq.stk M ls (k + 1)) ∧ Below W.heap.size W w') := fun W a5 k5 hl =>
              mask_o (M : Int) false hl HPK.out
            have HQK := Lib.hid (Iq.qk_succ M k)
            clear hu0 hu1
            go_wp2_with fail
            go_loopw [10, 11, 12, 54] (fun _ _ _ i wq => ∃ (j : Nat) (v : Value) (es : List El) (a7 : Option Addr) (kk7 : Nat) (l : List Iq.Ln), i = .int .i64 j ∧ j ≤ ls.length ∧ MI w b6 b8 wo.heap.size wo x0 x1 x2 x3 x4 (.slice a ls.length cap) (.slice a7 l.length kk7) l ([u0, u1].set k v) v es ((Iq.partk M ls k).take j) wq ∧
                Hid (l.Sublist ls ∧ l.filter (Iq.oth (Iq.qk M k)) = (Iq.partk M ls k).drop j ∧ l.filter (Iq.not_oth (Iq.qk M k)) = Iq.stk M ls (k + 1))) (fun _ _ _ i _ => ls.length - (intOf i).toNat)
            case atStart => exact ⟨0, _, [], a6, kk6, _, rfl, Nat.zero_le _, HMI.out, Iq.stk_sub M ls k, by rw [HST.out]; rfl, HSN.out⟩
            case round =>
              clear s5 HMI
              obtain ⟨j, v, es, a7, kk7, l, rfl, hj, hM, HL⟩ := hrel
              obtain ⟨av, cv, rfl⟩ := own_slice4 hM.lo.own
              obtain ⟨r0, r1, r2, r3, r4, r5, -⟩ := hM.pw.a.box
              have s5 := hM.pw.s.box.p5
              by_cases hjl : j < ls.length
              · cases hd : (Iq.partk M ls k).drop j with
                | nil =>
                  have hend := Iq.round_end hd HL.out.2.1 HL.out.2.2
                  have hnone := Iq.round_none hM4 HOK.out hl32 HL.out.1 hd HL.out.2.1
                  rw [HX.out] at hnone
                  obtain ⟨rfl, htk⟩ := hend
                  have HT : Hid (∀ W, Lp W (.slice a7 (Iq.stk M ls (k + 1)).length kk7) (Iq.stk M ls (k + 1)) → Calls Try.prog 15 #[.agg #[.bool x0, .bool x1, .bool x2, .bool x3, .bool x4, .slice a7 (Iq.stk M ls (k + 1)).length kk7]] W fun e w' => ∃ a kk a2 k2', e = .returned (.tuple #[.agg #[.bool false, .bool false, .bool false, .bool false, .bool false, .slice a 0 kk], .agg #[.int .i64 0, .int .i64 0, .int .i64 0, .slice a2 0 k2'], .bool false]) ∧ LpF W.heap.size w' (.slice a 0 kk) [] ∧ LvF W.heap.size w' (.slice a2 0 k2') [] ∧ Below W.heap.size W w') := fun W hl => take_o (l := []) (ys := []) hl hnone
                  rw [htk] at hM
                  have HM := Lib.hid hM
                  have HLL := Lib.hid hM.la.lp
                  clear htk hnone hM hd HL
                  go_upto_region 18 with (go_at_call 15; (with_reducible refine (HT.out _ HLL.out).mono ?_); rintro e w6 ⟨a9, k9, a10, k10, rfl, -, -, hb6⟩)
                  have hM2 := HM.out.step (stepAny hb6 ((low_alloc w6 (.cells #[.bool false, .bool false, .bool false, .bool false, .bool false, .slice a9 0 k9] 30 (0, 0))).alloc (by simp) (.cells #[.int .i64 0, .int .i64 0, .int .i64 0, .slice a10 0 k10] 38 (0, 0))))
                  generalize (w6.alloc (.cells #[.bool false, .bool false, .bool false, .bool false, .bool false, .slice a9 0 k9] 30 (0, 0))).alloc (.cells #[.int .i64 0, .int .i64 0, .int .i64 0, .slice a10 0 k10] 38 (0, 0)) = W8 at *
                  clear hb6 HM HLL HT r0 r1 r2 r3 r4 r5 s5
                  obtain ⟨r0, r1, r2, r3, r4, r5, -⟩ := hM2.pw.a.box
                  have HLL := Lib.hid hM2.la.lp
                  have HM := Lib.hid hM2
                  clear hM2
                  go_wp2_with (go_at_call 14; (with_reducible refine (HMASK.out _ _ _ HLL.out).mono ?_); rintro e w9 ⟨a9, k9, rfl, hl9, hb9⟩; obtain ⟨o0, o1, o2, o3, o4, o5, z0, z1, z2, z3, z4, z5⟩ := (HM.out.step hb9).pw.a.box)
                  obtain ⟨u0', u1', n1, n2, n3, n4, n5, n6⟩ := HM.out.fin hlt HU0.out HU1.out HN.out hl9 hb9 false false false false false
                  go_roundw
                  case rel => exact ⟨k + 1, false, false, false, false, false, a9, k9, u0', u1', by go_num, by omega, HQK.out, n1, n2, n3, n4, n5, n6⟩
                  case measure => simp [intOf]; omega
                | cons y r =>
                  obtain ⟨l', htk, hsub, e1, e2, e3⟩ := Iq.round_step hM4 HOK.out hl32 HL.out.1 hd HL.out.2.1 HL.out.2.2
                  rw [HX.out] at htk
                  obtain ⟨d, t, nn, ys⟩ := y
                  have HT : Hid (∀ W, Lp W (.slice a7 l.length kk7) l → Calls Try.prog 15 #[.agg #[.bool x0, .bool x1, .bool x2, .bool x3, .bool x4, .slice a7 l.length kk7]] W fun e w' => ∃ a kk a2 k2', e = .returned (.tuple #[.agg #[.bool x0, .bool x1, .bool x2, .bool x3, .bool x4, .slice a l'.length kk], .agg #[.int .i64 d, .int .i64 t, .int .i64 nn, .slice a2 ys.length k2'], .bool true]) ∧ LpF W.heap.size w' (.slice a l'.length kk) l' ∧ LvF W.heap.size w' (.slice a2 ys.length k2') ys ∧ Below W.heap.size W w') := fun W hl => take_o hl htk
                  have HLL := Lib.hid hM.la.lp
                  have HM := Lib.hid hM
                  have HSUB : Hid (l'.Sublist ls ∧ l'.filter (Iq.oth (Iq.qk M k)) = (Iq.partk M ls k).drop (j + 1) ∧ l'.filter (Iq.not_oth (Iq.qk M k)) = Iq.stk M ls (k + 1)) := ⟨hsub, e1, e2⟩
                  have HE3 := Lib.hid e3
                  have hel : es.length ≤ 32 := by
                    have h1 := hM.lo.len
                    have h2 := Iq.partk_le M ls k
                    rw [h1, List.length_take]
                    omega
                  have hlt6 := hM.pw.a.lt
                  have hll8 := hM.pw.l8
                  have hl6 := hM.pw.l6
                  have hlB := hM.lB
                  have hBW := hM.BW
                  have hp8 := hM.pw.p.lt
                  clear htk hsub e1 e2 e3 hd HL hM
                  go_upto_region 16 with (go_at_call 15; (with_reducible refine (HT.out _ HLL.out).mono ?_); rintro e w6 ⟨a9, k9, a10, k10, rfl, hl9, hv6, hb6⟩; have hM6 := HM.out.step hb6; obtain ⟨o0, o1, o2, o3, o4, o5, z0, z1, z2, z3, z4, z5⟩ := hM6.pw.a.box; have hs76 := hM6.pw.a.lt; have hs86 := hM6.pw.p.lt)
                  have hM6 := HM.out.step hb6
                  have hb6s := hb6.size
                  have hM7 := hM6.put hl9 (by omega) (fun g hg => (HM.out.lo.own.lt g hg).2) x0 x1 x2 x3 x4
                  have hl7 : LpF wr.heap.size ((((((w6.setCell ⟨b6, 0, none⟩ (.bool x0)).setCell ⟨b6, 1, none⟩ (.bool x1)).setCell ⟨b6, 2, none⟩ (.bool x2)).setCell ⟨b6, 3, none⟩ (.bool x3)).setCell ⟨b6, 4, none⟩ (.bool x4)).setCell ⟨b6, 5, none⟩ (.slice a9 l'.length k9)) (.slice a9 l'.length k9) l' := hl9.keep fun b hb _ => set6_heap (by omega) _ _ _ _ _ _
                  have hv7 : LvF wr.heap.size ((((((w6.setCell ⟨b6, 0, none⟩ (.bool x0)).setCell ⟨b6, 1, none⟩ (.bool x1)).setCell ⟨b6, 2, none⟩ (.bool x2)).setCell ⟨b6, 3, none⟩ (.bool x3)).setCell ⟨b6, 4, none⟩ (.bool x4)).setCell ⟨b6, 5, none⟩ (.slice a9 l'.length k9)) (.slice a10 ys.length k10) ys := hv6.keep fun b hb _ => set6_heap (by omega) _ _ _ _ _ _
                  have hz7 : ((((((w6.setCell ⟨b6, 0, none⟩ (.bool x0)).setCell ⟨b6, 1, none⟩ (.bool x1)).setCell ⟨b6, 2, none⟩ (.bool x2)).setCell ⟨b6, 3, none⟩ (.bool x3)).setCell ⟨b6, 4, none⟩ (.bool x4)).setCell ⟨b6, 5, none⟩ (.slice a9 l'.length k9)).heap.size = w6.heap.size := by simp [World.setCell]
                  generalize (((((w6.setCell ⟨b6, 0, none⟩ (.bool x0)).setCell ⟨b6, 1, none⟩ (.bool x1)).setCell ⟨b6, 2, none⟩ (.bool x2)).setCell ⟨b6, 3, none⟩ (.bool x3)).setCell ⟨b6, 4, none⟩ (.bool x4)).setCell ⟨b6, 5, none⟩ (.slice a9 l'.length k9) = W7 at *
                  have hb79 : Below W7.heap.size W7 ((W7.alloc (.cells #[.bool x0, .bool x1, .bool x2, .bool x3, .bool x4, .slice a9 l'.length k9] 30 (0, 0))).alloc (.cells #[.int .i64 d, .int .i64 t, .int .i64 nn, .slice a10 ys.length k10] 38 (0, 0))) := (low_alloc W7 _).alloc (by simp) _
                  have hM9 := hM7.step hb79
                  have hl9' := hl7.keep fun b _ hlt => hb79.block b hlt
                  have hv9 := hv7.keep fun b _ hlt => hb79.block b hlt
                  have hK11 : Bk ((W7.alloc (.cells #[.bool x0, .bool x1, .bool x2, .bool x3, .bool x4, .slice a9 l'.length k9] 30 (0, 0))).alloc (.cells #[.int .i64 d, .int .i64 t, .int .i64 nn, .slice a10 ys.length k10] 38 (0, 0))) (w6.heap.size + 1) 38 [.int .i64 d, .int .i64 t, .int .i64 nn, .slice a10 ys.length k10] := Bk.newAt _ _ [_, _, _, _] (by simp [hz7])
                  have hsz9 : w6.heap.size + 2 = ((W7.alloc (.cells #[.bool x0, .bool x1, .bool x2, .bool x3, .bool x4, .slice a9 l'.length k9] 30 (0, 0))).alloc (.cells #[.int .i64 d, .int .i64 t, .int .i64 nn, .slice a10 ys.length k10] 38 (0, 0))).heap.size := by simp [hz7]
                  generalize (W7.alloc (.cells #[.bool x0, .bool x1, .bool x2, .bool x3, .bool x4, .slice a9 l'.length k9] 30 (0, 0))).alloc (.cells #[.int .i64 d, .int .i64 t, .int .i64 nn, .slice a10 ys.length k10] 38 (0, 0)) = W9 at *
                  clear hb79 hM7 hl7 hv7 hz7 hM6 hb6 hl9 hv6 o0 o1 o2 o3 o4 o5 z0 z1 z2 z3 z4 z5 r0 r1 r2 r3 r4 r5 s5 HLL HT
                  obtain ⟨q0, q1, q2, q3, -⟩ := hK11.box4
                  have p8 : W9.cell? ⟨b8, k, none⟩ = some (.slice av es.length cv) := by rw [hM9.pw.p.cell]; exact HCK.out _
                  have pz8 := hM9.pw.p.frozen k
                  have hown := hM9.lo.own
                  have HV9 : Hid (∀ g, Value.ownBlock (.slice av es.length cv) = some g → g < wr.heap.size) := fun g hg => (HM.out.lo.own.lt g hg).2
                  have HNR : Hid (LnR W9 (d, t, nn, a10, ys.length, k10) (d, t, nn, ys)) := ⟨rfl, rfl, rfl, hv9.1⟩
                  have HFR : Hid (∀ g, g < wr.heap.size → Far g (d, t, nn, a10, ys.length, k10)) := fun g hg b off e hm => by
                    have := hv9.2 b off ys.length k10 (by simp only at e; rw [e]) hm
                    omega
                  have HM9 := Lib.hid hM9
                  have HL9 := Lib.hid hl9'
                  have hBs : wo.heap.size ≤ W9.heap.size := hM9.BW
                  have hb8s : b8 < W9.heap.size := hM9.pw.p.lt
                  clear hM9 hl9' hv9 hK11
                  have HSN2 : Hid (∀ v7 w7, w7.ownsRow wo.heap.size 37 4 v7 (es.length + 1) ((es ++ [(d, t, nn, a10, ys.length, k10)]).flatMap el) → Spares ((W9.alloc (.cells #[.int .i64 d, .int .i64 t, .int .i64 nn, .slice a10 ys.length k10] 37 (0, 0))).drew) w7 (.slice av es.length cv) v7 → Below wo.heap.size ((W9.alloc (.cells #[.int .i64 d, .int .i64 t, .int .i64 nn, .slice a10 ys.length k10] 37 (0, 0))).drew) w7 →
                      PW w b6 b8 x0 x1 x2 x3 x4 (.slice a ls.length cap) (.slice a9 l'.length k9) ([u0, u1].set k (.slice av es.length cv)) w7 ∧ MI w b6 b8 wo.heap.size wo x0 x1 x2 x3 x4 (.slice a ls.length cap) (.slice a9 l'.length k9) l' ([u0, u1].set k v7) v7 (es ++ [(d, t, nn, a10, ys.length, k10)]) ((Iq.partk M ls k).take (j + 1)) (w7.setCell ⟨b8, k, none⟩ v7)) := fun v7 w7 ho7 hs7 hb7 => by
                    have hX : Below W9.heap.size W9 ((W9.alloc (.cells #[.int .i64 d, .int .i64 t, .int .i64 nn, .slice a10 ys.length k10] 37 (0, 0))).drew) := (low_alloc _ _).drew
                    have h1 := (HM9.out.step hX).snoc (C := wr.heap.size) (HL9.out.keep fun b _ hlt => hX.block b hlt) (by omega) HV9.out (HNR.out.below hX (Nat.le_refl _)) (fun g hg => HFR.out g (by omega)) (fun g hg => HFR.out g (HV9.out g hg)) ho7 hs7 hb7 k
                    rw [List.set_set] at h1
                    rw [HE3.out]
                    exact h1
                  have HC7 : Hid (∀ w7, PW w b6 b8 x0 x1 x2 x3 x4 (.slice a ls.length cap) (.slice a9 l'.length k9) ([u0, u1].set k (.slice av es.length cv)) w7 → w7.cell? ⟨b8, k, none⟩ = some (.slice av es.length cv)) := fun w7 h => by rw [h.p.cell]; exact HCK.out _
                  go_wp2_with fail
                  go_region_law ((refine step_append_m el el_len (by omega) el_one (by rfl) (.tmp 68) (.tmp 70) 23 (by rfl) wo.heap.size 37 i0 (.agg #[.int .i64 0, .int .i64 0, .int .i64 0, .slice none 0 0]) 48 Try.underlying23 hi hz0 hz1 hz2 rfl (.slice av es.length cv) es.length es (by rfl) (hown.alloc _) (some ⟨W9.heap.size, 0, none⟩) 1 [(d, t, nn, a10, ys.length, k10)] 1 (by rfl) rfl (by simp) (by omega) (Rm.one (enc := el) W9 (d, t, nn, a10, ys.length, k10) _ _ rfl) (by unfold maxLen; omega) (by omega) (by simp; omega) ?_; intro v7 w7 ho7 hs7 hb7; obtain ⟨a7, c7, rfl⟩ := own_slice4 ho7; obtain ⟨hpw7, hm7⟩ := HSN2.out _ w7 ho7 hs7 hb7; have r87 := HC7.out _ hpw7; have z87 := hpw7.p.frozen k))
                  all_goals
                    clear ho7 hs7 hb7 hpw7
                    have HM7 := Lib.hid hm7
                    clear hm7
                    go_wp2
                    go_roundw
                    case rel => exact ⟨j + 1, _, _, _, _, _, by go_num, by omega, HM7.out, HSUB.out⟩
                    case measure => simp [intOf]; omega
              · obtain rfl : j = ls.length := by omega
                have hd : (Iq.partk M ls k).drop ls.length = [] := List.drop_eq_nil_iff.2 (Iq.partk_le M ls k)
                have hend := Iq.round_end hd HL.out.2.1 HL.out.2.2
                rw [hend.2] at hM
                obtain ⟨rfl, htk⟩ := hend
                have hM2 := hM
                clear hM htk hd HL r0 r1 r2 r3 r4 r5 s5
                go_upto_region 18 with fail
                generalize wr = W8 at *
                obtain ⟨r0, r1, r2, r3, r4, r5, -⟩ := hM2.pw.a.box
                have HLL := Lib.hid hM2.la.lp
                have HM := Lib.hid hM2
                clear hM2
                go_wp2_with (go_at_call 14; (with_reducible refine (HMASK.out _ _ _ HLL.out).mono ?_); rintro e w9 ⟨a9, k9, rfl, hl9, hb9⟩; obtain ⟨o0, o1, o2, o3, o4, o5, z0, z1, z2, z3, z4, z5⟩ := (HM.out.step hb9).pw.a.box)
                obtain ⟨u0', u1', n1, n2, n3, n4, n5, n6⟩ := HM.out.fin hlt HU0.out HU1.out HN.out hl9 hb9 false false false false false
                go_roundw
                case rel => exact ⟨k + 1, false, false, false, false, false, a9, k9, u0', u1', by go_num, by omega, HQK.out, n1, n2, n3, n4, n5, n6⟩
                case measure => simp [intOf]; omega
          · obtain rfl : k = 2 := by omega
            rw [if_pos (by omega)] at hu0 hu1
            have e2 : Iq.stk M ls 2 = [] := rfl
            rw [e2] at hP hL
            have HU0 := Lib.hid hu0.lp
            have HU1 := Lib.hid hu1.lp
            have HPW := Lib.hid hP
            have s5 := hP.s.box.p5
            have hs0 := hP.s.lt
            clear hu0 hu1 hL e2 HPS HN HX
            go_upto_region 23 with fail
            have hBK0 : Bk (wo.alloc (.cells #[.int .i64 0, .int .i64 0] 49 (0, 0))) wo.heap.size 49 [.int .i64 0, .int .i64 0] := Bk.new wo _ [_, _]
            go_wp2_with fail
            go_loopw [14, 15, 86] (fun _ _ i wq => ∃ j : Nat, i = .int .i64 j ∧ j ≤ ls.length ∧ Below wo.heap.size wo wq ∧ Bk wq wo.heap.size 49 [.int .i64 ((ls.take j).filter (Iq.oth M)).length, .int .i64 ((ls.take j).filter (Iq.not_oth M)).length]) (fun _ _ i _ => ls.length - (intOf i).toNat)
            case atStart => exact ⟨0, rfl, Nat.zero_le _, low_alloc _ _, hBK0⟩
            case round =>
              clear hBK0 s5 hP
              obtain ⟨j, rfl, hj, hB, hbk⟩ := hrel
              have hP2 := HPW.out.step hB
              by_cases hlt : j < ls.length
              · have f1 : (0 : Int) ≤ (j : Int) := by omega
                have f2 : (j : Int) < (ls.length : Int) := by omega
                by_cases hd : ls[j].1 = (M : Int)
                · have HYES : Iq.not_oth M ls[j] = true := by unfold Iq.not_oth Iq.oth; simp [hd]
                  have HNO : Iq.oth M ls[j] = false := by unfold Iq.oth; simp [hd]
                  obtain ⟨hnk, hat⟩ : ∃ h : ((ls.take j).filter (Iq.not_oth M)).length < (Iq.partk M ls 1).length, (Iq.partk M ls 1)[((ls.take j).filter (Iq.not_oth M)).length] = ls[j] := Iq.filt_at (p := Iq.not_oth M) hlt HYES
                  have HY1 := Lib.hid (Iq.filt_yes (p := Iq.not_oth M) hlt HYES)
                  have HY2 := Lib.hid (Iq.filt_no (p := Iq.oth M) hlt HNO)
                  have hpo := (HU1.out.below hB (Nat.le_refl _)).open
                  obtain ⟨a12, c12, hu, hc12, hm12, hn12, hel12⟩ := hpo
                  obtain ⟨g, o2, v2, ha12, hg2, h42, hsv2⟩ := hel12 _ hnk
                  rw [hat] at h42 hsv2
                  have HB := Lib.hid hB
                  have HP2 := Lib.hid hP2
                  have HBK := Lib.hid hbk
                  have HHD := Lib.hid hd
                  unfold maxLen at hm12
                  have hlen12 : (Iq.partk M ls 1).length ≤ 40 := Nat.le_trans (List.length_filter_le _ _) (by omega)
                  obtain ⟨b, off, u3, e3, hbb, h4, hs3⟩ := HEL.out j hlt
                  have h4r := h4.below hP2.low hbb
                  have hs3r := hs3.below hP2.low (Nat.le_refl _)
                  have q1 : (ls[j].1 == (M : Int)) = true := by rw [hd]; simp
                  generalize ls[j] = y at *
                  obtain ⟨d, t, nn, ys⟩ := y
                  obtain ⟨a2, c2, rfl, -⟩ := id hs3r
                  obtain ⟨a3, c3, rfl, -⟩ := id hsv2
                  subst ha12
                  subst e3
                  clear hat hel12
                  generalize hn1 : ((ls.take j).filter (Iq.not_oth M)).length = N1 at *
                  generalize hlF : (Iq.partk M ls 1).length = LF at *
                  have hbz := hbk.lt
                  have hs0 := hP2.s.lt
                  have h8 := hP2.p.lt
                  have hbw : b < wr.heap.size := by have := hP2.low.size; omega
                  have HQ : Hid (∀ W, Below wr.heap.size wr W → W.cell? ⟨wo.heap.size, 1, none⟩ = some (.int .i64 N1) ∧ W.cell? ⟨b8, 1, none⟩ = some (.slice (some ⟨g, o2, none⟩) LF c12) ∧ W.cell? ⟨w.heap.size, 5, none⟩ = some (.slice (some ⟨b, off, none⟩) ls.length cap) ∧ At4 W b (off + j * 4) d t nn (.slice a2 ys.length c2) ∧ At4 W g (o2 + N1 * 4) d t nn (.slice a3 ys.length c3)) := fun W hW =>
                    ⟨by rw [(HBK.out.below hW hbz).cell]; rfl, by rw [(HP2.out.step hW).p.cell, ← hu]; rfl, (HP2.out.step hW).s.box.p5, h4r.below hW hbw, h42.below hW hg2⟩
                  have HSL : Hid (∀ W, Below wr.heap.size wr W → Calls Try.prog 16 #[.agg #[.int .i64 d, .int .i64 t, .int .i64 nn, .slice a3 ys.length c3], .agg #[.int .i64 d, .int .i64 t, .int .i64 nn, .slice a2 ys.length c2]] W fun e w' => e = .returned (.bool true) ∧ Below W.heap.size W w') := fun W hW =>
                    (sameLine_w (x := (d, t, nn, ys)) (y := (d, t, nn, ys)) ⟨_, rfl, hsv2.below hW (Nat.le_refl _)⟩ ⟨_, rfl, hs3r.below hW (Nat.le_refl _)⟩).mono fun _ _ h => ⟨by rw [h.1]; simp, h.2⟩
                  have g1 : (0 : Int) ≤ (N1 : Int) := by omega
                  have g2 : (N1 : Int) < (LF : Int) := by omega
                  have hN1 : N1 ≤ 40 := by omega
                  obtain ⟨y0, y1, y2, y3⟩ := h4r
                  have s5 := hP2.s.box.p5
                  clear hu h42 h4 hs3 hsv2 hs3r hbk hP2 hB hd hn1 hlF HU0 HU1
                  have HEN : Hid (∀ W, Below wr.heap.size wr W → W.frozen? ⟨wo.heap.size, 1, none⟩ = false ∧ Below wo.heap.size wo (W.setCell ⟨wo.heap.size, 1, none⟩ (.int .i64 ((N1 : Int) + 1))) ∧ Bk (W.setCell ⟨wo.heap.size, 1, none⟩ (.int .i64 ((N1 : Int) + 1))) wo.heap.size 49 [.int .i64 ((ls.take (j + 1)).filter (Iq.oth M)).length, .int .i64 ((ls.take (j + 1)).filter (Iq.not_oth M)).length]) := fun W hW => by
                    have hbw := HBK.out.below hW hbz
                    refine ⟨hbw.frozen 1, (stepAny HB.out hW).setCell (p := ⟨wo.heap.size, 1, none⟩) (Nat.le_refl _) _, ?_⟩
                    have h9 := hbw.set 1 (.int .i64 ((N1 : Int) + 1))
                    rw [HY1.out, HY2.out]
                    exact h9
                  have hl0 := low_drew wr
                  obtain ⟨c0, c1, c2', ⟨z0, z1, z2, z3⟩, ⟨x0', x1', x2', x3'⟩⟩ := HQ.out _ hl0
                  have hgq : decide (LF ≤ N1) = false := by simp; omega
                  go_upto_region 29 with fail
                  go_region_held3 (fun w' => w'.cell? ⟨wo.heap.size, 1, none⟩ = some (.int .i64 N1) ∧ w'.cell? ⟨b8, 1, none⟩ = some (.slice (some ⟨g, o2, none⟩) LF c12) ∧ w'.cell? ⟨w.heap.size, 5, none⟩ = some (.slice (some ⟨b, off, none⟩) ls.length cap) ∧ w'.cell? ⟨b, off + j * 4, none⟩ = some (.int .i64 d) ∧ w'.cell? ⟨b, off + j * 4 + 1, none⟩ = some (.int .i64 t) ∧ w'.cell? ⟨b, off + j * 4 + 2, none⟩ = some (.int .i64 nn) ∧ w'.cell? ⟨b, off + j * 4 + 3, none⟩ = some (.slice a2 ys.length c2) ∧ w'.cell? ⟨g, o2 + N1 * 4, none⟩ = some (.int .i64 d) ∧ w'.cell? ⟨g, o2 + N1 * 4 + 1, none⟩ = some (.int .i64 t) ∧ w'.cell? ⟨g, o2 + N1 * 4 + 2, none⟩ = some (.int .i64 nn) ∧ w'.cell? ⟨g, o2 + N1 * 4 + 3, none⟩ = some (.slice a3 ys.length c3)) (first | go_keep | exact ⟨by assumption, by assumption, by assumption, by assumption, by assumption, by assumption, by assumption, by assumption, by assumption, by assumption, by assumption⟩) ((go_at_call 16; refine (HSL.out _ (by assumption)).mono ?_; rintro e w9 ⟨rfl, hb9⟩; have hl9 := stepAny (by assumption) hb9; obtain ⟨c09, c19, c29, ⟨z09, z19, z29, z39⟩, ⟨x09, x19, x29, x39⟩⟩ := HQ.out w9 hl9))
                  obtain ⟨fz9, n1, n2⟩ := HEN.out w9 hl9
                  go_wp2
                  go_roundw
                  case rel => (repeat apply Exists.intro); exact ⟨⟨j + 1, by go_num, by omega, n1, n2⟩, rfl⟩
                  case measure => simp [intOf]; omega
                · have HYES : Iq.oth M ls[j] = true := by unfold Iq.oth; simp [hd]
                  have HNO : Iq.not_oth M ls[j] = false := by unfold Iq.not_oth Iq.oth; simp [hd]
                  obtain ⟨hnk, hat⟩ : ∃ h : ((ls.take j).filter (Iq.oth M)).length < (Iq.partk M ls 0).length, (Iq.partk M ls 0)[((ls.take j).filter (Iq.oth M)).length] = ls[j] := Iq.filt_at (p := Iq.oth M) hlt HYES
                  have HY1 := Lib.hid (Iq.filt_yes (p := Iq.oth M) hlt HYES)
                  have HY2 := Lib.hid (Iq.filt_no (p := Iq.not_oth M) hlt HNO)
                  have hpo := (HU0.out.below hB (Nat.le_refl _)).open
                  obtain ⟨a12, c12, hu, hc12, hm12, hn12, hel12⟩ := hpo
                  obtain ⟨g, o2, v2, ha12, hg2, h42, hsv2⟩ := hel12 _ hnk
                  rw [hat] at h42 hsv2
                  have HB := Lib.hid hB
                  have HP2 := Lib.hid hP2
                  have HBK := Lib.hid hbk
                  have HHD := Lib.hid hd
                  unfold maxLen at hm12
                  have hlen12 : (Iq.partk M ls 0).length ≤ 40 := Nat.le_trans (List.length_filter_le _ _) (by omega)
                  obtain ⟨b, off, u3, e3, hbb, h4, hs3⟩ := HEL.out j hlt
                  have h4r := h4.below hP2.low hbb
                  have hs3r := hs3.below hP2.low (Nat.le_refl _)
                  have q1 : (ls[j].1 == (M : Int)) = false := by simpa using hd
                  generalize ls[j] = y at *
                  obtain ⟨d, t, nn, ys⟩ := y
                  obtain ⟨a2, c2, rfl, -⟩ := id hs3r
                  obtain ⟨a3, c3, rfl, -⟩ := id hsv2
                  subst ha12
                  subst e3
                  clear hat hel12
                  generalize hn1 : ((ls.take j).filter (Iq.oth M)).length = N1 at *
                  generalize hlF : (Iq.partk M ls 0).length = LF at *
                  have hbz := hbk.lt
                  have hs0 := hP2.s.lt
                  have h8 := hP2.p.lt
                  have hbw : b < wr.heap.size := by have := hP2.low.size; omega
                  have HQ : Hid (∀ W, Below wr.heap.size wr W → W.cell? ⟨wo.heap.size, 0, none⟩ = some (.int .i64 N1) ∧ W.cell? ⟨b8, 0, none⟩ = some (.slice (some ⟨g, o2, none⟩) LF c12) ∧ W.cell? ⟨w.heap.size, 5, none⟩ = some (.slice (some ⟨b, off, none⟩) ls.length cap) ∧ At4 W b (off + j * 4) d t nn (.slice a2 ys.length c2) ∧ At4 W g (o2 + N1 * 4) d t nn (.slice a3 ys.length c3)) := fun W hW =>
                    ⟨by rw [(HBK.out.below hW hbz).cell]; rfl, by rw [(HP2.out.step hW).p.cell, ← hu]; rfl, (HP2.out.step hW).s.box.p5, h4r.below hW hbw, h42.below hW hg2⟩
                  have HSL : Hid (∀ W, Below wr.heap.size wr W → Calls Try.prog 16 #[.agg #[.int .i64 d, .int .i64 t, .int .i64 nn, .slice a3 ys.length c3], .agg #[.int .i64 d, .int .i64 t, .int .i64 nn, .slice a2 ys.length c2]] W fun e w' => e = .returned (.bool true) ∧ Below W.heap.size W w') := fun W hW =>
                    (sameLine_w (x := (d, t, nn, ys)) (y := (d, t, nn, ys)) ⟨_, rfl, hsv2.below hW (Nat.le_refl _)⟩ ⟨_, rfl, hs3r.below hW (Nat.le_refl _)⟩).mono fun _ _ h => ⟨by rw [h.1]; simp, h.2⟩
                  have g1 : (0 : Int) ≤ (N1 : Int) := by omega
                  have g2 : (N1 : Int) < (LF : Int) := by omega
                  have hN1 : N1 ≤ 40 := by omega
                  obtain ⟨y0, y1, y2, y3⟩ := h4r
                  have s5 := hP2.s.box.p5
                  clear hu h42 h4 hs3 hsv2 hs3r hbk hP2 hB hd hn1 hlF HU0 HU1
                  have HEN : Hid (∀ W, Below wr.heap.size wr W → W.frozen? ⟨wo.heap.size, 0, none⟩ = false ∧ Below wo.heap.size wo (W.setCell ⟨wo.heap.size, 0, none⟩ (.int .i64 ((N1 : Int) + 1))) ∧ Bk (W.setCell ⟨wo.heap.size, 0, none⟩ (.int .i64 ((N1 : Int) + 1))) wo.heap.size 49 [.int .i64 ((ls.take (j + 1)).filter (Iq.oth M)).length, .int .i64 ((ls.take (j + 1)).filter (Iq.not_oth M)).length]) := fun W hW => by
                    have hbw := HBK.out.below hW hbz
                    refine ⟨hbw.frozen 0, (stepAny HB.out hW).setCell (p := ⟨wo.heap.size, 0, none⟩) (Nat.le_refl _) _, ?_⟩
                    have h9 := hbw.set 0 (.int .i64 ((N1 : Int) + 1))
                    rw [HY1.out, HY2.out]
                    exact h9
                  have hl0 := low_drew wr
                  obtain ⟨c0, c1, c2', ⟨z0, z1, z2, z3⟩, ⟨x0', x1', x2', x3'⟩⟩ := HQ.out _ hl0
                  have hgq : decide (LF ≤ N1) = false := by simp; omega
                  go_upto_region 29 with fail
                  go_region_held3 (fun w' => w'.cell? ⟨wo.heap.size, 0, none⟩ = some (.int .i64 N1) ∧ w'.cell? ⟨b8, 0, none⟩ = some (.slice (some ⟨g, o2, none⟩) LF c12) ∧ w'.cell? ⟨w.heap.size, 5, none⟩ = some (.slice (some ⟨b, off, none⟩) ls.length cap) ∧ w'.cell? ⟨b, off + j * 4, none⟩ = some (.int .i64 d) ∧ w'.cell? ⟨b, off + j * 4 + 1, none⟩ = some (.int .i64 t) ∧ w'.cell? ⟨b, off + j * 4 + 2, none⟩ = some (.int .i64 nn) ∧ w'.cell? ⟨b, off + j * 4 + 3, none⟩ = some (.slice a2 ys.length c2) ∧ w'.cell? ⟨g, o2 + N1 * 4, none⟩ = some (.int .i64 d) ∧ w'.cell? ⟨g, o2 + N1 * 4 + 1, none⟩ = some (.int .i64 t) ∧ w'.cell? ⟨g, o2 + N1 * 4 + 2, none⟩ = some (.int .i64 nn) ∧ w'.cell? ⟨g, o2 + N1 * 4 + 3, none⟩ = some (.slice a3 ys.length c3)) (first | go_keep | exact ⟨by assumption, by assumption, by assumption, by assumption, by assumption, by assumption, by assumption, by assumption, by assumption, by assumption, by assumption⟩) ((go_at_call 16; refine (HSL.out _ (by assumption)).mono ?_; rintro e w9 ⟨rfl, hb9⟩; have hl9 := stepAny (by assumption) hb9; obtain ⟨c09, c19, c29, ⟨z09, z19, z29, z39⟩, ⟨x09, x19, x29, x39⟩⟩ := HQ.out w9 hl9))
                  obtain ⟨fz9, n1, n2⟩ := HEN.out w9 hl9
                  go_wp2
                  go_roundw
                  case rel => (repeat apply Exists.intro); exact ⟨⟨j + 1, by go_num, by omega, n1, n2⟩, rfl⟩
                  case measure => simp [intOf]; omega
              · obtain rfl : j = ls.length := by omega
                rw [List.take_length] at hbk
                obtain ⟨a12, c12, hu12, -⟩ := (HU0.out.below hB (Nat.le_refl _)).open
                obtain ⟨a13, c13, hu13, -⟩ := (HU1.out.below hB (Nat.le_refl _)).open
                have e0 : (ls.filter (Iq.oth M)) = Iq.partk M ls 0 := rfl
                have e1 : (ls.filter (Iq.not_oth M)) = Iq.partk M ls 1 := rfl
                rw [e0, e1] at hbk
                clear e0 e1 HU0 HU1
                generalize (Iq.partk M ls 0).length = L0 at *
                generalize (Iq.partk M ls 1).length = L1 at *
                have p0 := hP2.p.cell 0
                have p1 := hP2.p.cell 1
                rw [hu12, hu13] at p0 p1
                simp only [List.getElem?_cons_zero, List.getElem?_cons_succ] at p0 p1
                have o0 := hbk.cell 0
                have o1 := hbk.cell 1
                simp only [List.getElem?_cons_zero, List.getElem?_cons_succ] at o0 o1
                have r5 := hP2.a.box.p5
                have HLOW := Lib.hid hP2.low
                simp only [List.length_nil] at r5
                clear hP2 hbk hB hu12 hu13
                go_wp2
                go_ret
                exact ⟨rfl, HLOW.out⟩
end Go.Proofs.Ytehniblcodkmaaa
