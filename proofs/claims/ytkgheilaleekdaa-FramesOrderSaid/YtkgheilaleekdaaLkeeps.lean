/-
  The walk of FramesKeeps.
-/
import Derived.Test.YtkgheilaleekdaaLwhole
namespace Fr
theorem put_out {p b : List UInt8} {x k : Nat} (h : x + b.length ≤ p.length) (hk : k < p.length) (ho : k < x ∨ x + b.length ≤ k) : (put p x b)[k]'(by rw [length_put h]; exact hk) = p[k] := by
  have h1 : (put p x b)[k]? = p[k]? := by
    unfold put
    rcases ho with ho | ho
    · rw [List.getElem?_append_left (by simp; omega), List.getElem?_take, if_pos ho]
    · rw [List.getElem?_append_right (by simp; omega), List.getElem?_append_right (by simp; omega), List.getElem?_drop]
      congr 1
      simp
      omega
  rw [List.getElem?_eq_getElem (by rw [length_put h]; exact hk), List.getElem?_eq_getElem hk] at h1
  exact Option.some.inj h1

theorem put_in {p b : List UInt8} {x : Nat} (h : x ≤ p.length) : ((put p x b).drop x).take b.length = b := by
  unfold put
  rw [List.drop_left' (by simp; omega), List.take_left]

/-- What write answers where it writes. -/
theorem write_ok {ps : List (List UInt8)} {F X : Nat} {b : List UInt8} (hc : chk ps F X b.length = 0) :
    ∃ (hF : F < ps.length) (qs : List (List UInt8)), write ps F X b = (qs, 0) ∧ qs = ps.set F (put ps[F] X b) ∧ F < 96 ∧ X + b.length ≤ 128 ∧ ps.length = 96 ∧ qs.length = 96 ∧ valid qs = true ∧ ∀ i (h : i < ps.length), ps[i].length = 128 := by
  obtain ⟨hva, hok⟩ := chk_zero hc
  obtain ⟨hl, hpl⟩ := valid_iff.1 hva
  obtain ⟨r1, r2, r3, r4, r5, r6⟩ := okR_iff.1 hok
  have hF : F < ps.length := by omega
  refine ⟨hF, _, ?_, rfl, by omega, by omega, hl, by rw [List.length_set]; exact hl, ?_, hpl⟩
  · unfold write
    rw [if_pos hc]
    simp [page, List.getD, hF]
  · refine valid_iff.2 ⟨by rw [List.length_set]; exact hl, fun i hi => ?_⟩
    rw [List.getElem_set]
    split
    · rw [length_put (by rw [hpl F hF]; omega), hpl F hF]
    · exact hpl i (by simpa using hi)
end Fr
namespace Go.Proofs.Ytkgheilaleekdaa
open Go.RowKit

set_option maxRecDepth 20000 in
set_option maxHeartbeats 1600000 in
theorem lkeeps_w {w : World} {v0 v1 v2 : Value} (h0 : IsMem w v0) (h1 : IsAt w v1) (h2 : IsBytes w v2) :
    Calls Try.prog 3 #[v0, v1, v2] w fun e w' => e = .returned (.bool true) ∧ Below w.heap.size w w' := by
  obtain ⟨u, ps, rfl, hv⟩ := h0
  obtain ⟨f, x, n, rfl, -, -, -⟩ := h1
  obtain ⟨bs, hb⟩ := h2
  have HF := Lib.hid (fun w' (hb : Below w.heap.size w w') => rfew_w (hv.below hb (Nat.le_refl _)))
  have HV := Lib.hid hv
  have HB := Lib.hid hb
  obtain ⟨a, cap, rfl, hcc, hcm, -⟩ := hv.open
  obtain ⟨ab, cb, rfl, hbc, hbm, -⟩ := hb
  unfold maxLen at hbm hcm
  by_cases hgo : Fr.few ps = true ∧ bs.length ≤ 300
  · obtain ⟨hfew, hlen⟩ := hgo
    rw [hfew] at HF
    have f1 : (bs.length : Int) ≤ 300 := by omega
    have H1 := Lib.hid (fun w' (hbl : Below w.heap.size w w') => fwrite_w f x (HV.out.below hbl (Nat.le_refl _)) (HB.out.below hbl (Nat.le_refl _)))
    clear hfew hv
    go_enter Try.func3, Try.ntmps3
    go_wp2_with (first
      | (go_at_call 10; refine (awake_w _).mono ?_; rintro e w1 ⟨rfl, hb1⟩; have hk1 := LK.step (LK.start _ _ _ _ _) hb1; obtain ⟨k0, k1, k2, k3, z0, z1, y0, y1, x0, x1⟩ := hk1.facts)
      | (go_at_call 11; refine (HF.out w1 hk1.low).mono ?_; rintro e w2 ⟨rfl, hb2⟩; have hk2 := hk1.step hb2; obtain ⟨k0, k1, k2, k3, z0, z1, y0, y1, x0, x1⟩ := hk2.facts))
    go_cut [7, 8] (fun s7 s8 W => Got w2 (Fr.write ps f x bs) s7 s8 W)
    case first =>
      have kd0 : w2.drew.cell? ⟨w.heap.size, 0, none⟩ = some (.slice a ps.length cap) := k0
      have kd1 : w2.drew.cell? ⟨w.heap.size + 1, 0, none⟩ = some (.int .i64 f) := k1
      have kd2 : w2.drew.cell? ⟨w.heap.size + 1, 1, none⟩ = some (.int .i64 x) := k2
      clear hb1 hb2
      go_region_held3 (fun w' => w'.cell? ⟨w.heap.size, 0, none⟩ = some (.slice a ps.length cap) ∧ w'.cell? ⟨w.heap.size + 1, 0, none⟩ = some (.int .i64 f) ∧ w'.cell? ⟨w.heap.size + 1, 1, none⟩ = some (.int .i64 x)) (first | go_keep | exact ⟨by assumption, by assumption, by assumption⟩) ((first
        | (go_at_call 13; refine (to_w _ _ _ _).mono ?_; rintro e w3 ⟨rfl, hb3⟩; have hl3 := stepAny (by first | exact low_drew w2 | exact low_adrew w2 _) hb3; have hk3 := hk2.step hl3; obtain ⟨k03, k13, k23, k33, z03, z13, y03, y13, x03, x13⟩ := hk3.facts; obtain ⟨hc3, hf3⟩ := bcell hb3; (try have hz3 : w2.heap.size < w3.heap.size := (by have := hb3.size; simp at this; omega)))
        | (go_at_call 12; refine (H1.out _ (by first | exact hk3.low | exact (hk3.alloc _).low)).mono ?_; rintro e w4 ⟨u4, rfl, hr4, hb4⟩; obtain ⟨a4, n4, c4, rfl⟩ := hr4.form; have hl4 := stepAny (by first | exact Below.refl _ w3 | exact low_alloc w3 _) hb4; have hk4 := hk3.step hl4; obtain ⟨k04, k14, k24, k34, z04, z14, y04, y14, x04, x14⟩ := hk4.facts; obtain ⟨hc4, hf4⟩ := bcell hb4; (try have hz4 : w2.heap.size < w4.heap.size := (by have := hb4.size; simp at this; omega)); (try have hz5 : w3.heap.size < w4.heap.size := (by have := hb4.size; simp at this; omega)))))
      all_goals (go_wp2_with fail; go_meet)
      all_goals first
        | exact Got.new (stepAny hl3 hl4) hr4 hl3.size
        | exact Got.old (stepAny hl3 hl4) hr4 (by simp; have := hl3.size; omega) hl3.size (by simp) (Bk.newAt w3 _ [_] rfl) hb4
        | exact Got.old (stepAny hl3 hl4) hr4 hl3.size (Nat.le_refl _) hz3 (Bk.newAt w2 _ [_] rfl) (stepAny (stepAny (low_drew _) hb3) hl4)
    case rest =>
      obtain ⟨g7, a7, n7, c7, rfl, rfl, hlc, hg7, B7, R7⟩ := hcut
      have hkc := hk2.step hlc
      clear k0 k1 k2 k3 z0 z1 y0 y1 x0 x1 hb1 hb2 hk1 hk2 hlc HF H1
      obtain ⟨k0, k1, k2, k3, z0, z1, y0, y1, x0, x1⟩ := hkc.facts
      have k7 := B7.cell 0
      simp only [List.getElem?_cons_zero] at k7
      rcases R7 with ⟨g, h, hv7, -, -, -, hFm, hz⟩ | ⟨hv7, hnil, hz⟩
      · have hc : Fr.chk ps f x bs.length = 0 := by
          unfold Fr.write at hz
          split at hz
          · assumption
          · exact hz
        obtain ⟨-, hok⟩ := Fr.chk_zero hc
        obtain ⟨r1, r2, r3, r4, r5, r6⟩ := Fr.okR_iff.1 hok
        obtain ⟨F, rfl⟩ := Int.eq_ofNat_of_zero_le r1
        obtain ⟨X, rfl⟩ := Int.eq_ofNat_of_zero_le r3
        obtain ⟨hF, qs, hw, hqs, hF96, hX, hl, hql, hqv, hpl⟩ := Fr.write_ok hc
        rw [hw] at hFm ⊢
        injection hv7 with e1 e2 e3
        subst e1 e2 e3
        have P7 := hFm.pg
        have hqF : qs[F]'(by omega) = Fr.put ps[F] X bs := by subst hqs; rw [List.getElem_set_self]
        have hrd : Fr.read qs F X bs.length = (bs, 0) := by
          unfold Fr.read
          rw [if_pos (Fr.chk_ok hqv hok)]
          have : Fr.page qs F = Fr.put ps[F] X bs := by
            rw [← hqF]; simp [Fr.page, List.getD, show F < qs.length by omega]
          rw [this]
          simp only [Int.toNat_natCast]
          rw [Fr.put_in (by rw [hpl F hF]; omega)]
        have H2 := Lib.hid (fread_w (w := wc) F X bs.length P7)
        rw [hrd] at H2
        have HS := Lib.hid (fun w' (hbl : Below wc.heap.size wc w') vb (hs : Sl eb w' vb bs) => sameBytes_t hs (HB.out.below (hkc.step hbl).low (Nat.le_refl _)))
        have HP7 := Lib.hid P7
        have HQS := Lib.hid hqs
        have HPL := Lib.hid hpl
        have HQ96 := Lib.hid hql
        have HL96 := Lib.hid hl
        rw [hl] at k0 hkc ⊢
        clear hz hc hok hw hqs hqv hpl hqF hrd P7 hFm hql hl
        have f2 : (0 : Int) ≤ (F : Int) := by omega
        have f3 : (F : Int) < 96 := by omega
        go_wp2_with (first
          | (go_at_call 14; refine H2.out.mono ?_; rintro e w3 ⟨v3, rfl, ho3, hb3⟩; have HS3 := Lib.hid (Sl.ofOwn ho3); clear ho3; have hk3 := hkc.step hb3; have B73 := B7.below hb3 B7.lt)
          | (go_at_call 15; refine (HS.out w3 hb3 v3 HS3.out).mono ?_; rintro e w4 ⟨rfl, hb4⟩; have hk4 := hk3.step hb4; have B74 := B73.below hb4 B73.lt; obtain ⟨k04, k14, k24, k34, z04, z14, y04, y14, x04, x14⟩ := hk4.facts; have k74 := B74.cell 0; simp only [List.getElem?_cons_zero] at k74))
        have hl34 := stepAny hb3 hb4
        have HP74 := Lib.hid (HP7.out.below hl34 (Nat.le_refl _))
        have hg74 := B74.lt
        clear hb3 hb4 hk3 hkc B7 B73 HP7 HS3 HS H2 k0 k1 k2 k3 z0 z1 y0 y1 x0 x1 k7 hl34 B74
        go_loopw [11, 12, 74] (fun _ _ s74 wr => ∃ i : Nat, s74 = .int .i64 i ∧ i ≤ 96 ∧ Below w4.heap.size w4 wr) (fun _ _ s74 _ => 96 - (intOf s74).toNat)
        case atStart => exact ⟨0, rfl, Nat.zero_le _, Below.refl _ _⟩
        case round =>
          obtain ⟨i, rfl, hi96, hbr⟩ := hrel
          obtain ⟨wo, rfl⟩ : ∃ wo : World, wo = wr := ⟨_, rfl⟩
          by_cases hi : i < 96
          · have hip : i < ps.length := by rw [HL96.out]; exact hi
            have hiq : i < qs.length := by rw [HQ96.out]; exact hi
            have hkr := hk4.step hbr
            obtain ⟨m0, m1, m2, m3, -⟩ := hkr.facts
            have k7r : wo.cell? ⟨g7, 0, none⟩ = some (.slice (some ⟨h, 0, none⟩) 96 96) := (hbr.cell (p := ⟨g7, 0, none⟩) hg74).trans k74
            obtain ⟨b1, o1, a1, c1, rfl, q1, q2, q3, q4, q5, q6⟩ := (HV.out.below hkr.low (Nat.le_refl _)).el i hip
            obtain ⟨b2, o2, a2, c2, e2, s1, s2, s3, s4, s5, s6⟩ := (HP74.out.below hbr (Nat.le_refl _)).el i hiq
            have hpi := HPL.out i hip
            have hqi : qs[i].length = 128 := by
              have := HQS.out; subst this
              rw [List.getElem_set]
              split
              · rw [Fr.length_put (by rw [HPL.out F hF]; omega)]; exact HPL.out F hF
              · exact HPL.out i _
            injection e2 with e2
            injection e2 with e2a e2b _
            subst e2a e2b
            rw [hpi] at q2
            rw [hqi, Nat.zero_add] at s2
            obtain ⟨pb, po, rfl, t1, t2⟩ := q6.form (by omega)
            obtain ⟨qb, qo, rfl, t3, t4⟩ := s6.form (by omega)
            have HT2 := Lib.hid t2
            have HT4 := Lib.hid t4
            have HPI := Lib.hid hpi
            have HQI := Lib.hid hqi
            clear t2 t4 hpi hqi q6 s6
            have g1 : (0 : Int) ≤ (i : Int) := by omega
            have g2 : (i : Int) < 96 := by omega
            go_wp2_with fail
            go_quiet (fail)
            go_wp2
            go_loopw [12, 96] (fun _ s96 wr => ∃ k : Nat, s96 = .int .i64 k ∧ k ≤ 128 ∧ Below wo.heap.size wo wr) (fun _ s96 _ => 128 - (intOf s96).toNat)
            case atStart => exact ⟨0, rfl, Nat.zero_le _, by first | exact drewN_below _ | exact Below.refl _ _⟩
            case round =>
              obtain ⟨k, rfl, hk128, hbr2⟩ := hrel
              by_cases hk : k < 128
              · have hkr2 := hkr.step hbr2
                obtain ⟨m0', m1', m2', m3', -⟩ := hkr2.facts
                have k7r2 := (hbr2.cell (p := ⟨g7, 0, none⟩) (Nat.lt_of_lt_of_le hg74 hbr.size)).trans k7r
                have q22 := (hbr2.cell (p := ⟨b1, o1 + i, none⟩) q1).trans q2
                have s22 := (hbr2.cell (p := ⟨h, i, none⟩) s1).trans s2
                have hkp : k < ps[i].length := by rw [HPI.out]; exact hk
                have hkq : k < qs[i].length := by rw [HQI.out]; exact hk
                have c1 := (hbr2.cell (p := ⟨pb, po + k, none⟩) t1).trans (HT2.out k hkp)
                have c2 := (hbr2.cell (p := ⟨qb, qo + k, none⟩) t3).trans (HT4.out k hkq)
                unfold eb at c1 c2
                have HEQ : Hid ((i ≠ F ∨ k < X ∨ X + bs.length ≤ k) → qs[i][k] = ps[i][k]) := by
                  intro ho
                  have h1 := HQS.out
                  subst h1
                  by_cases e : F = i
                  · subst e
                    have h2 : ((ps.set F (Fr.put ps[F] X bs))[F])[k] = (Fr.put ps[F] X bs)[k]'(by rw [Fr.length_put (by rw [HPL.out F hF]; omega)]; exact hkp) := by congr 1; rw [List.getElem_set_self]
                    rw [h2]
                    exact Fr.put_out (by rw [HPL.out F hF]; omega) hkp (by rcases ho with ho | ho | ho <;> omega)
                  · have h2 : ((ps.set F (Fr.put ps[F] X bs))[i])[k] = (ps[i])[k] := by congr 1; rw [List.getElem_set_ne e]
                    exact h2
                generalize ps[i][k] = pv at *
                generalize qs[i][k] = qv at *
                have g3 : (0 : Int) ≤ (k : Int) := by omega
                have g4 : (k : Int) < 128 := by omega
                have hrel2 : ∀ q, ∃ k' : Nat, Value.int .i64 ((k : Int) + 1) = .int .i64 k' ∧ k' ≤ 128 ∧ Below wo.heap.size wo (wr.drewN q) := fun q => ⟨k + 1, by go_num, by omega, ⟨hbr2.os, hbr2.tape, hbr2.output, hbr2.size, hbr2.block⟩⟩
                have HREL := Lib.hid hrel2
                have w1 : IntKind.i64.wrap ((X : Int) + (bs.length : Int)) = (X : Int) + (bs.length : Int) := IntWalk.i64_in _ (by omega)
                clear hrel2
                by_cases hiF : i = F
                · have e1 : ((i : Int) != (F : Int)) = false := by rw [hiF]; simp
                  by_cases hkX : k < X
                  · have e2 : decide ((k : Int) < (X : Int)) = true := by simp; omega
                    have e2' : decide (k < X) = true := by simp; omega
                    obtain rfl := HEQ.out (.inr (.inl hkX))
                    clear hiF HEQ
                    go_wp2_with fail
                    go_quiet (fail)
                    go_wp2
                    go_roundw
                    case rel => exact HREL.out _
                    case measure => simp [intOf]; omega
                  · have e2 : decide ((k : Int) < (X : Int)) = false := by simp; omega
                    have e2' : decide (k < X) = false := by simp; omega
                    by_cases hkL : X + bs.length ≤ k
                    · have e3 : decide ((X : Int) + (bs.length : Int) ≤ (k : Int)) = true := by simp; omega
                      obtain rfl := HEQ.out (.inr (.inr hkL))
                      clear hiF HEQ
                      go_wp2_with fail
                      go_quiet (fail)
                      go_wp2
                      go_roundw
                      case rel => exact HREL.out _
                      case measure => simp [intOf]; omega
                    · have e3 : decide ((X : Int) + (bs.length : Int) ≤ (k : Int)) = false := by simp; omega
                      clear hiF HEQ
                      go_wp2_with fail
                      go_quiet (fail)
                      go_wp2
                      go_roundw
                      case rel => exact HREL.out _
                      case measure => simp [intOf]; omega
                · have e1 : ((i : Int) != (F : Int)) = true := by rw [bne_iff_ne]; omega
                  obtain rfl := HEQ.out (.inl hiF)
                  clear hiF HEQ
                  go_wp2_with fail
                  go_quiet (fail)
                  go_wp2
                  go_roundw
                  case rel => exact HREL.out _
                  case measure => simp [intOf]; omega
              · obtain rfl : k = 128 := by omega
                go_wp2
                go_roundw
                case rel => exact ⟨i + 1, by go_num, by omega, stepAny hbr hbr2⟩
                case measure => simp [intOf]; omega
          · go_wp2
            go_ret
            exact ⟨rfl, (hk4.step hbr).low⟩
      · injection hv7 with e1 e2 e3
        subst e1 e2 e3
        have hne : ((Fr.write ps f x bs).2 != 0) = true := by rw [bne_iff_ne]; exact hz
        generalize (Fr.write ps f x bs).2 = c at *
        clear hz hnil
        go_wp2
        go_ret
        exact ⟨rfl, hkc.low⟩

  · cases hfew : Fr.few ps with
    | false =>
      rw [hfew] at HF
      clear hfew hv
      go_enter Try.func3, Try.ntmps3
      go_wp2_with (first
        | (go_at_call 10; refine (awake_w w2).mono ?_; rintro e w3 ⟨rfl, hb3⟩)
        | (go_at_call 10; refine (awake_w _).mono ?_; rintro e w1 ⟨rfl, hb1⟩; have hk1 := LK.step (LK.start _ _ _ _ _) hb1; obtain ⟨k0, k1, k2, k3, z0, z1, y0, y1, x0, x1⟩ := hk1.facts)
        | (go_at_call 11; refine (HF.out w1 hk1.low).mono ?_; rintro e w2 ⟨rfl, hb2⟩))
      go_ret
      exact ⟨rfl, ((hk1.step hb2).step hb3).low⟩
    | true =>
      rw [hfew] at HF
      have f1 : (300 : Int) < (bs.length : Int) := by
        have : ¬ bs.length ≤ 300 := fun h => hgo ⟨hfew, h⟩
        omega
      clear hfew hv hgo
      go_enter Try.func3, Try.ntmps3
      go_wp2_with (first
        | (go_at_call 10; refine (awake_w w2).mono ?_; rintro e w3 ⟨rfl, hb3⟩)
        | (go_at_call 10; refine (awake_w _).mono ?_; rintro e w1 ⟨rfl, hb1⟩; have hk1 := LK.step (LK.start _ _ _ _ _) hb1; obtain ⟨k0, k1, k2, k3, z0, z1, y0, y1, x0, x1⟩ := hk1.facts)
        | (go_at_call 11; refine (HF.out w1 hk1.low).mono ?_; rintro e w2 ⟨rfl, hb2⟩))
      go_ret
      exact ⟨rfl, ((hk1.step hb2).step hb3).low⟩
end Go.Proofs.Ytkgheilaleekdaa
