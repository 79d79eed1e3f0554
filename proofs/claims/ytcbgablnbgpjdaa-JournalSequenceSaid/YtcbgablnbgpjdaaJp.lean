/-
  The walk of Read of the reference.
-/
import Derived.Test.YtcbgablnbgpjdaaJo
import Derived.Test.YtcbgablnbgpjdaaCallStep
namespace Jr
theorem horn_step (l : List UInt8) (k : Nat) (hk : k < l.length) : horn (l.take (k + 1)) = 256 * horn (l.take k) + l[k].toNat := by
  rw [List.take_succ_eq_append_getElem hk, horn_snoc]
theorem read_many {d : List UInt8} (hd : d.length = 12288) (h : 11 < cnt (blk d 1)) : read d = (0, [], 4) := by
  unfold read
  rw [if_neg (show ¬ d.length ≠ 12288 by simpa using hd)]
  exact if_pos (Or.inl h)
theorem read_bad {d : List UInt8} (hd : d.length = 12288) (h0 : 0 < cnt (blk d 1)) (h : cnt (blk d 1) ≤ 11) (hv : valid (logged d (cnt (blk d 1))) = false) : read d = (0, [], 4) := by
  unfold read
  rw [if_neg (show ¬ d.length ≠ 12288 by simpa using hd)]
  refine if_pos (Or.inr ⟨h0, ?_⟩)
  show valid (logged d (min (cnt (blk d 1)) 11)) = false
  rw [Nat.min_eq_left h]
  exact hv
theorem read_good {d : List UInt8} (hd : d.length = 12288) (h : cnt (blk d 1) ≤ 11) (hv : cnt (blk d 1) < 1 ∨ valid (logged d (cnt (blk d 1))) = true) (W : List UInt8) (hW : W = head (seqOf d) (logged d (cnt (blk d 1))) (slots d)) :
    read d = if (blk d 1).take 20 ≠ W.take 20 ∨ (blk d 1).drop 28 ≠ W.drop 28 then (0, [], 4) else if ((blk d 1).drop 20).take 8 ≠ (W.drop 20).take 8 then (0, [], 5) else (seqOf d, logged d (cnt (blk d 1)), 0) := by
  unfold read
  rw [if_neg (show ¬ d.length ≠ 12288 by simpa using hd)]
  have e : ((blk d 1).getD 4 0).toNat = cnt (blk d 1) := rfl
  simp only [e, Nat.min_eq_left h]
  rw [if_neg, hW]
  rintro (h1 | ⟨h1, h2⟩)
  · omega
  · rcases hv with hv | hv
    · omega
    · rw [hv] at h2; cases h2
end Jr
namespace Go.Proofs.Ytcbgablnbgpjdaa
open Go.RowKit

theorem str_ne {a b : List UInt8} (h : a ≠ b) : (a == b) = false ∧ (a != b) = true := by simp [h]

/-- The bytes 16 to 19 as a number. -/
def q4 (h : List UInt8) : List UInt8 := (h.drop 16).take 4

set_option maxRecDepth 100000 in
set_option maxHeartbeats 4000000 in
theorem rread_w {v : Value} {d : List UInt8} {w : World} (hv : Sl eb w v d) : Calls Try.prog 27 #[v] w (RetRead 66 d w) := by
  obtain ⟨a, cap, rfl, hc, hm, hna, -⟩ := id hv
  unfold maxLen at hm
  by_cases hd : d.length = 12288
  rotate_left
  · have HR : Hid (Jr.read d = (0, [], 1)) := if_pos hd
    have hq : ((d.length : Int) != 12288) = true := by rw [bne_iff_ne]; omega
    clear hd
    go_enter Try.func27, Try.ntmps27
    go_wp2_with fail
    go_ret3
    exact retRead_mk HR.out Wo.nil (Below.refl _ _)
  · have hhl := Jr.blk_len d 1 (by omega)
    have HSQ : Hid (Jr.seqOf d = (Jr.horn (q4 (Jr.blk d 1)) : Int)) := by
      show _ = _
      unfold Jr.seqOf q4
      rw [Jr.get_nat _ (by simp; omega)]
    have HRM : Hid (11 < Jr.cnt (Jr.blk d 1) → Jr.read d = (0, [], 4)) := Jr.read_many hd
    have HRB : Hid (0 < Jr.cnt (Jr.blk d 1) → Jr.cnt (Jr.blk d 1) ≤ 11 → Jr.valid (Jr.logged d (Jr.cnt (Jr.blk d 1))) = false → Jr.read d = (0, [], 4)) := Jr.read_bad hd
    have HRG := Lib.hid (Jr.read_good hd)
    have HQL : Hid ((q4 (Jr.blk d 1)).length = 4) := by show _ = _; unfold q4; simp; omega
    rw [hd] at hv hc ⊢
    obtain ⟨b, off, rfl, hb, -, -, -⟩ := hv.addr (by omega)
    have hh : Sl eb w (.slice (some ⟨b, off + 128, none⟩) 128 (cap - 128)) (Jr.blk d 1) := hv.cut 128 128 (by omega)
    have hhr : Rd eb w (some ⟨b, off + 128, none⟩) (Jr.blk d 1) := by obtain ⟨_, _, q, -, -, -, hr⟩ := id hh; injection q with q1 q2 q3; subst q1 q3; exact hr
    have HHR := Lib.hid hhr
    have HB1 : Hid (∀ W, Calls Try.prog 32 #[.slice (some ⟨b, off, none⟩) 12288 cap, .int .i64 1] W fun e w' => e = .returned (.slice (some ⟨b, off + 128, none⟩) 128 (cap - 128)) ∧ W = w') := fun W => rblock_w b off cap 1 (by omega) hc (by unfold maxLen; omega) W
    have HBK : Hid (∀ k : Nat, k ≤ 11 → ∀ W, Calls Try.prog 32 #[.slice (some ⟨b, off, none⟩) 12288 cap, .int .i64 (2 + (k : Int))] W fun e w' => e = .returned (.slice (some ⟨b, off + (2 + k) * 128, none⟩) 128 (cap - (2 + k) * 128)) ∧ W = w') := fun k hk W => by
      have h := rblock_w b off cap (2 + k) (by omega) hc (by unfold maxLen; omega) W
      rw [show ((2 + k : Nat) : Int) = 2 + (k : Int) by omega] at h
      exact h
    have HX : Hid (∀ W, Below w.heap.size w W → ∀ k, k < 11 → W.cell? ⟨b, off + 128 + (5 + k), none⟩ = some (.int .u8 ((Jr.ent (Jr.blk d 1) k).toNat : Int))) := fun W hW k hk => by
      have h1 := (hhr.at (5 + k) (by omega)).2
      rw [hW.cell (p := ⟨b, off + 128 + (5 + k), none⟩) hb, h1]
      unfold Jr.ent eb
      simp [List.getD, show 5 + k < (Jr.blk d 1).length by omega]
    have HY : Hid (∀ W, Below w.heap.size w W → ∀ k (hk : k < (q4 (Jr.blk d 1)).length), W.cell? ⟨b, off + 128 + (16 + k), none⟩ = some (.int .u8 ((q4 (Jr.blk d 1))[k].toNat : Int))) := fun W hW k hk => by
      rw [HQL.out] at hk
      have h1 := (hhr.at (16 + k) (by omega)).2
      rw [hW.cell (p := ⟨b, off + 128 + (16 + k), none⟩) hb, h1]
      have e : (q4 (Jr.blk d 1))[k]'(by rw [HQL.out]; exact hk) = (Jr.blk d 1)[16 + k]'(by omega) := by unfold q4; rw [List.getElem_take, List.getElem_drop]
      rw [e]
      rfl
    have hx4 := (hhr.at 4 (by omega)).2
    have hcn : ((Jr.blk d 1)[4]'(by omega)).toNat = Jr.cnt (Jr.blk d 1) := by unfold Jr.cnt; simp [List.getD, show 4 < (Jr.blk d 1).length by omega]
    have hcn8 : Jr.cnt (Jr.blk d 1) < 256 := ((Jr.blk d 1).getD 4 0).toNat_lt
    unfold eb at hx4
    rw [hcn] at hx4
    have HH := Lib.hid hh
    have HV := Lib.hid hv
    have HDL := Lib.hid hd
    have HHL := Lib.hid hhl
    clear hh hv hhr hcn hd hhl
    generalize hcn : Jr.cnt (Jr.blk d 1) = n at *
    have HCN := Lib.hid hcn
    clear hcn
    have HHS := Lib.hid (fun k (hk : k < (q4 (Jr.blk d 1)).length) => Jr.horn_step (q4 (Jr.blk d 1)) k hk)
    have HHLt := Lib.hid (fun k => Jr.horn_lt ((q4 (Jr.blk d 1)).take k))
    go_enter Try.func27, Try.ntmps27
    go_upto_region 4 with (go_at_call 32; (with_reducible refine (HB1.out _).mono ?_); rintro e w1 ⟨rfl, rfl⟩)
    go_quiet (fail)
    go_wp2_with fail
    clear hx4
    go_loopw [6, 8] (fun s6 i wr => ∃ k : Nat, i = .int .i64 (16 + (k : Int)) ∧ k ≤ 4 ∧ s6 = .int .i64 (Jr.horn ((q4 (Jr.blk d 1)).take k)) ∧ Below w.heap.size w wr) (fun _ i _ => 20 - (intOf i).toNat)
    case atStart => exact ⟨0, rfl, by omega, rfl, drewN_low _ _⟩
    case round =>
      obtain ⟨k, rfl, hk, rfl, hbl⟩ := hrel
      have hqlt := HHLt.out k
      by_cases hlt : k < 4
      · have hy := HY.out wr hbl k (by rw [HQL.out]; exact hlt)
        have HST := Lib.hid (HHS.out k (by rw [HQL.out]; exact hlt))
        have hb8 : ((q4 (Jr.blk d 1))[k]'(by rw [HQL.out]; exact hlt)).toNat < 256 := UInt8.toNat_lt _
        have hq : Jr.horn ((q4 (Jr.blk d 1)).take k) < 16777216 := by
          have h3 : ((q4 (Jr.blk d 1)).take k).length ≤ 3 := by rw [List.length_take]; omega
          have : 256 ^ ((q4 (Jr.blk d 1)).take k).length ≤ 256 ^ 3 := Nat.pow_le_pow_right (by omega) h3
          have h4 : (256 : Nat) ^ 3 = 16777216 := by decide
          omega
        have f1 : (0 : Int) ≤ 16 + (k : Int) := by omega
        have f2 : 16 + (k : Int) < 128 := by omega
        have f3 : (16 + (k : Int)).toNat = 16 + k := by omega
        generalize ((q4 (Jr.blk d 1))[k]'(by rw [HQL.out]; exact hlt)).toNat = x at *
        generalize Jr.horn ((q4 (Jr.blk d 1)).take k) = q at *
        clear hqlt
        have HBL := Lib.hid hbl
        clear hbl
        go_wp2_with fail
        go_roundw
        case rel => exact ⟨k + 1, by go_num, by omega, by rw [HST.out]; go_num, HBL.out⟩
        case measure => simp [intOf]; omega
      · obtain rfl : k = 4 := by omega
        have HS4 : Hid ((q4 (Jr.blk d 1)).take 4 = q4 (Jr.blk d 1)) := List.take_of_length_le (by rw [HQL.out]; omega)
        have HBL := Lib.hid hbl
        have HSE : Hid ((Jr.horn ((q4 (Jr.blk d 1)).take 4) : Int) = Jr.seqOf d) := by
          show _ = _
          rw [HS4.out, HSQ.out]
        rw [HSE.out, show ((16 : Int) + ((4 : Nat) : Int)) = 20 from rfl]
        have hsz := hbl.size
        clear hbl hqlt
        generalize hsq : Jr.seqOf d = sq at *
        have HSQV := Lib.hid hsq
        clear hsq
        go_wp2_with fail
        obtain ⟨w4, rfl⟩ : ∃ w4 : World, w4 = wr := ⟨_, rfl⟩
        obtain ⟨i0, hi, hz0, hz1, hz2⟩ := info_parts Try.info5
        obtain ⟨iJ, hiJ, hzJ0, hzJ1, hzJ2⟩ := info_parts Try.infoR
        go_loopw [9, 10] (fun s9 i wr => ∃ (k : Nat) (v : Value), v = s9 ∧ i = .int .i64 k ∧ k ≤ n ∧ k ≤ 11 ∧ Wo w4.heap.size 66 [] wr v (Jr.logged d k) ∧ Below w4.heap.size w4 wr) (fun _ i _ => 11 - (intOf i).toNat)
        case atStart => exact ⟨0, _, rfl, rfl, Nat.zero_le _, Nat.zero_le _, Wo.nil, Below.refl _ _⟩
        case round =>
          obtain ⟨k, v, rfl, rfl, hk, hk11, hwo, hbl⟩ := hrel
          obtain ⟨av, cv, hav, -, -⟩ := hwo.slice
          rw [Jr.logged_len] at hav
          subst hav
          by_cases hlt : k < n ∧ k < 11
          · obtain ⟨g1, g2⟩ := hlt
            have HLS := Lib.hid (Jr.logged_succ d k)
            have HLEN := Lib.hid (Jr.logged_len d k)
            have HWO := Lib.hid hwo
            have HBL9 := Lib.hid hbl
            have hbs := hbl.size
            have HXk : Hid (∀ W, Below w4.heap.size w4 W → W.cell? ⟨b, off + 128 + (5 + k), none⟩ = some (.int .u8 ((Jr.ent (Jr.blk d 1) k).toNat : Int))) := fun W hW => HX.out W (stepAny HBL.out hW) k g2
            have HVK : Hid (∀ W, Below wr.heap.size wr W → Rd eb W (some ⟨b, off + (2 + k) * 128, none⟩) (Jr.blk d (2 + k))) := fun W hW => by
              have h := (HV.out.cut ((2 + k) * 128) 128 (by omega)).below (stepAny (stepAny HBL.out HBL9.out) hW) (Nat.le_refl _)
              obtain ⟨_, _, q, -, -, -, hr⟩ := h
              injection q with q1 q2 q3
              subst q1
              exact hr
            have HBLEN := Lib.hid (Jr.blk_len d (2 + k) (by rw [HDL.out]; omega))
            have HBKk := Lib.hid (HBK.out k (by omega))
            have hx8 : (Jr.ent (Jr.blk d 1) k).toNat < 256 := UInt8.toNat_lt _
            have f1 : (0 : Int) ≤ 5 + (k : Int) := by omega
            have f2 : 5 + (k : Int) < 128 := by omega
            have f3 : (5 + (k : Int)).toNat = 5 + k := by omega
            have f4 : IntKind.i64.wrap (5 + (k : Int)) = 5 + (k : Int) := IntWalk.i64_in _ (by omega)
            have f5 : IntKind.i64.wrap (2 + (k : Int)) = 2 + (k : Int) := IntWalk.i64_in _ (by omega)
            have hxc := HXk.out wr.drew HBL9.out.drew
            clear hwo hbl
            generalize (Jr.ent (Jr.blk d 1) k).toNat = x at *
            generalize Jr.blk d (2 + k) = bs at *
            have f6 : IntKind.i64.wrap (x : Int) = (x : Int) := IntWalk.i64_in _ (by omega)
            go_wp2_with fail
            go_region_held3 (fun w' => w'.cell? ⟨b, off + 128 + (5 + k), none⟩ = some (.int .u8 (x : Int))) (first | with_reducible assumption | (exact HXk.out _ (HBL9.out.alloc hbs _).drew) | go_keep) ((first
              | (go_at_call 32; (with_reducible refine (HBKk.out _).mono ?_); rintro e w5 ⟨rfl, rfl⟩)
              | (refine step_append_rd eb (fun _ => rfl) rfl (.tmp 49) (.tmp 53) 29 (by rfl) wr.heap.size 5 i0 (.int .u8 0) 1 Try.underlying29 hi hz0 hz1 hz2 rfl (.slice (some ⟨wr.heap.size, 0, none⟩) 0 0) 0 [] (by rfl) (World.ownsRow_made wr #[] 0 (Nat.le_refl _) (Nat.zero_le _) rfl) (some ⟨b, off + (2 + k) * 128, none⟩) (cap - (2 + k) * 128) bs 128 (by rfl) HBLEN.out (by simp) (by omega) (HVK.out _ (low_adrew wr _)) (by unfold maxLen; omega) (by omega) (by simp) ?_; intro v5 w5 ho5 hs5 hb5; rw [Nat.zero_add, List.nil_append] at ho5; obtain ⟨a5, c5, rfl⟩ := own_slice ho5; have hb5' := (low_adrew wr _).trans hb5; have hx5 := HXk.out w5 (HBL9.out.trans (hb5'.mono hbs)))
              | (refine step_append_wo rfl (.tmp 42) (.tmp 56) 22 (by rfl) w4.heap.size 66 iJ _ Try.underlying22 hiJ hzJ0 hzJ1 hzJ2 rfl [] (.slice av k cv) (Jr.logged d k) (by rfl) ((HWO.out.below hb5').below (low_alloc _ _)) (by rw [HLEN.out]; omega) w5.heap.size (x : Int) (.slice a5 128 c5) bs (by rfl) (heap_alloc_new _ _) ((own_av ho5 (by simp) fun b hb => (HWO.out.lt b hb).2).alloc _) (by simp; have := hb5'.size; omega) ?_; intro v7 w7 hwo7 hs7 hb7; have hb7' := ((HBL9.out.trans (hb5'.mono hbs)).alloc (by have := hb5'.size; omega) _).trans hb7; have hx7 := HXk.out w7 hb7')))
            all_goals
              go_wp2_with fail
              go_roundw
              case rel => exact ⟨k + 1, _, rfl, by go_num, by omega, by omega, by rw [HLS.out]; exact hwo7, hb7'⟩
              case measure => simp [intOf]; omega
          · have HWO := Lib.hid hwo
            have HBL9 := Lib.hid hbl
            have HLEN := Lib.hid (Jr.logged_len d k)
            have hbs := hbl.size
            clear hwo hbl
            by_cases hkn : k < n
            · have h11 : 11 < n := by omega
              have h11' : (11 : Int) < (n : Int) := by omega
              have hk11' : ¬ k < 11 := by omega
              have HR := Lib.hid (HRM.out h11)
              go_wp2_with fail
              go_ret3
              exact retRead_mk HR.out Wo.nil (stepAny HBL.out HBL9.out)
            · obtain rfl : k = n := by omega
              clear hlt hkn hk
              have hk11' : k ≤ 11 := hk11
              have HVL := Lib.hid (rvalid_w HWO.out.wp (by rw [HLEN.out]; omega))
              by_cases h0 : 0 < k
              · have f0 : (0 : Int) < (k : Int) := by omega
                cases hval : Jr.valid (Jr.logged d k) with
                | false =>
                  have HR := Lib.hid (HRB.out h0 hk11 hval)
                  rw [hval] at HVL
                  clear hval
                  go_wp2_with (go_at_call 20; (with_reducible refine HVL.out.mono ?_); rintro e w5 ⟨rfl, hb5⟩)
                  go_ret3
                  exact retRead_mk HR.out Wo.nil (stepAny (stepAny HBL.out HBL9.out) hb5)
                | true =>
                  rw [hval] at HVL
                  have HVO : Hid (k < 1 ∨ Jr.valid (Jr.logged d k) = true) := .inr hval
                  clear hval
                  go_upto_region 16 with (go_at_call 20; (with_reducible refine HVL.out.mono ?_); rintro e w5 ⟨rfl, hb5⟩)
                  have HLW5 := Lib.hid (stepAny (stepAny HBL.out HBL9.out) hb5)
                  have HWO5 := Lib.hid (HWO.out.below hb5)
                  have hw45 := Nat.le_trans hbs hb5.size
                  clear hb5
                  have HGD := Lib.hid (HRG.out hk11 HVO.out _ rfl)
                  have HSLW := Lib.hid (rslots_w (HV.out.below HLW5.out (Nat.le_refl _)))
                  have hsl1408 : (Jr.slots d).length = 1408 := by unfold Jr.slots; simp; have := HDL.out; omega
                  have HSL := Lib.hid hsl1408
                  clear hsl1408
                  go_upto_region 17 with (first
                    | (go_at_call 34; (with_reducible refine HSLW.out.mono ?_); rintro e w6 ⟨v6, rfl, ho6, hb6⟩)
                    | (go_at_call 33; refine (rheader_w sq (HWO5.out.below hb6).wp (by rw [HLEN.out]; exact hk11) (Sl.ofOwn ho6) (by rw [HSL.out]; omega)).mono ?_; rintro e w7 ⟨v7, rfl, ho7, hb7⟩))
                  have hb57 := low_trans hb6 hb7
                  obtain ⟨g, cw, rfl⟩ := own_form ho7 (by omega)
                  have hws : Sl eb w7 (.slice (some ⟨g, 0, none⟩) 128 cw) (Jr.head sq (Jr.logged d k) (Jr.slots d)) := Sl.ofOwn ho7
                  have HLOW7 := Lib.hid (stepAny HLW5.out hb57)
                  have HWO7 := Lib.hid (HWO5.out.below hb57)
                  have hs57 := hb57.size
                  obtain ⟨-, -, -, -, -, hcw, hcwm⟩ := hws.addr (by omega)
                  have hhW : ∀ W, Below w7.heap.size w7 W → Sl eb W (.slice (some ⟨b, off + 128, none⟩) 128 (cap - 128)) (Jr.blk d 1) := fun W hW => HH.out.below (stepAny HLOW7.out hW) (Nat.le_refl _)
                  have hwW : ∀ W, Below w7.heap.size w7 W → Sl eb W (.slice (some ⟨g, 0, none⟩) 128 cw) (Jr.head sq (Jr.logged d k) (Jr.slots d)) := fun W hW => hws.below hW (Nat.le_refl _)
                  have HC1 : Hid (∀ W, Below w7.heap.size w7 W → (convert 29 9 (.slice (some ⟨b, off + 128, none⟩) 20 (cap - 128))).run Try.prog W = .ok (.string ⟨((Jr.blk d 1).take 20).toArray⟩) W) := fun W hW => conv_sl (by simpa using (hhW W hW).cut 0 20 (by omega))
                  have HC2 : Hid (∀ W, Below w7.heap.size w7 W → (convert 29 9 (.slice (some ⟨g, 0, none⟩) 20 cw)).run Try.prog W = .ok (.string ⟨((Jr.head sq (Jr.logged d k) (Jr.slots d)).take 20).toArray⟩) W) := fun W hW => conv_sl (by simpa using (hwW W hW).cut 0 20 (by omega))
                  have HC3 : Hid (∀ W, Below w7.heap.size w7 W → (convert 29 9 (.slice (some ⟨b, off + 128 + 28, none⟩) 100 (cap - 128 - 28))).run Try.prog W = .ok (.string ⟨((Jr.blk d 1).drop 28).toArray⟩) W) := fun W hW => conv_sl (by
                    have h := (hhW W hW).cut 28 100 (by omega)
                    rw [List.take_of_length_le (by rw [List.length_drop, HHL.out]; omega)] at h
                    exact h)
                  have HC4 : Hid (∀ W, Below w7.heap.size w7 W → (convert 29 9 (.slice (some ⟨g, 28, none⟩) 100 (cw - 28))).run Try.prog W = .ok (.string ⟨((Jr.head sq (Jr.logged d k) (Jr.slots d)).drop 28).toArray⟩) W) := fun W hW => conv_sl (by
                    have h := (hwW W hW).cut 28 100 (by omega)
                    rw [List.take_of_length_le (by rw [List.length_drop, Jr.head_eq, Jr.mk_len]; omega), Nat.zero_add] at h
                    exact h)
                  have HC5 : Hid (∀ W, Below w7.heap.size w7 W → (convert 29 9 (.slice (some ⟨b, off + 128 + 20, none⟩) 8 (cap - 128 - 20))).run Try.prog W = .ok (.string ⟨(((Jr.blk d 1).drop 20).take 8).toArray⟩) W) := fun W hW => conv_sl ((hhW W hW).cut 20 8 (by omega))
                  have HC6 : Hid (∀ W, Below w7.heap.size w7 W → (convert 29 9 (.slice (some ⟨g, 20, none⟩) 8 (cw - 20))).run Try.prog W = .ok (.string ⟨(((Jr.head sq (Jr.logged d k) (Jr.slots d)).drop 20).take 8).toArray⟩) W) := fun W hW => conv_sl (by
                    have h := (hwW W hW).cut 20 8 (by omega)
                    rw [Nat.zero_add] at h
                    exact h)
                  have HZ7 : Hid (∀ l e, RetRead 66 d w (.returned (.tuple #[.int .i64 0, .slice none 0 0, .int .i64 e])) l → True) := fun _ _ _ => trivial
                  clear ho6 ho7 hb6 hb7 hb57 hws hhW hwW HZ7
                  generalize (Jr.blk d 1).take 20 = t1 at *
                  generalize (Jr.head sq (Jr.logged d k) (Jr.slots d)).take 20 = t2 at *
                  generalize (Jr.blk d 1).drop 28 = t3 at *
                  generalize (Jr.head sq (Jr.logged d k) (Jr.slots d)).drop 28 = t4 at *
                  generalize ((Jr.blk d 1).drop 20).take 8 = t5 at *
                  generalize ((Jr.head sq (Jr.logged d k) (Jr.slots d)).drop 20).take 8 = t6 at *
                  have hc1 := HC1.out _ (low_drew w7)
                  have hc2 := HC2.out _ (low_drew w7)
                  have hc3 := HC3.out _ (low_drew w7)
                  have hc4 := HC4.out _ (low_drew w7)
                  unfold maxLen at hcwm
                  by_cases p1 : t1 = t2
                  · by_cases p2 : t3 = t4
                    · by_cases p3 : t5 = t6
                      · have HR : Hid (Jr.read d = (sq, Jr.logged d k, 0)) := HGD.out.trans ((if_neg (fun h => h.elim (fun h => h p1) (fun h => h p2))).trans (if_neg (fun h => h p3)))
                        clear HGD
                        subst p1 p2 p3
                        go_region
                        all_goals
                          have hc5 := HC5.out _ (low_drew w7).drew
                          have hc6 := HC6.out _ (low_drew w7).drew
                          go_wp2_with fail
                          go_region
                          all_goals
                            go_wp2_with fail
                            go_ret3
                            exact retRead_mk HR.out ((HWO7.out.below ((low_drew w7).drew)).base (Nat.le_trans HBL.out.size (Nat.le_refl _))) (HLOW7.out.drew.drew)
                      · obtain ⟨n1, n2⟩ := str_ne p3
                        have HR : Hid (Jr.read d = (0, [], 5)) := HGD.out.trans ((if_neg (fun h => h.elim (fun h => h p1) (fun h => h p2))).trans (if_pos p3))
                        clear HGD
                        subst p1 p2
                        go_region
                        all_goals
                          have hc5 := HC5.out _ (low_drew w7).drew
                          have hc6 := HC6.out _ (low_drew w7).drew
                          go_wp2_with fail
                          go_region
                          all_goals
                            go_wp2_with fail
                            go_ret3
                            exact retRead_mk HR.out Wo.nil (HLOW7.out.drew.drew)
                    · obtain ⟨n1, n2⟩ := str_ne p2
                      have HR : Hid (Jr.read d = (0, [], 4)) := HGD.out.trans (if_pos (.inr p2))
                      clear HGD
                      subst p1
                      go_region
                      all_goals
                        go_wp2_with fail
                        go_ret3
                        exact retRead_mk HR.out Wo.nil HLOW7.out.drew
                  · obtain ⟨n1, n2⟩ := str_ne p1
                    have HR : Hid (Jr.read d = (0, [], 4)) := HGD.out.trans (if_pos (.inl p1))
                    clear HGD
                    go_region
                    all_goals
                      go_wp2_with fail
                      go_ret3
                      exact retRead_mk HR.out Wo.nil HLOW7.out.drew
              · have f0 : ¬ (0 : Int) < (k : Int) := by omega
                have HVO : Hid (k < 1 ∨ Jr.valid (Jr.logged d k) = true) := .inl (by omega)
                go_upto_region 16 with fail
                obtain ⟨w5, rfl⟩ : ∃ w5 : World, w5 = wr := ⟨_, rfl⟩
                have HLW5 := Lib.hid (stepAny HBL.out HBL9.out)
                have HWO5 := Lib.hid HWO.out
                have hw45 := hbs
                have HGD := Lib.hid (HRG.out hk11 HVO.out _ rfl)
                have HSLW := Lib.hid (rslots_w (HV.out.below HLW5.out (Nat.le_refl _)))
                have hsl1408 : (Jr.slots d).length = 1408 := by unfold Jr.slots; simp; have := HDL.out; omega
                have HSL := Lib.hid hsl1408
                clear hsl1408
                go_upto_region 17 with (first
                  | (go_at_call 34; (with_reducible refine HSLW.out.mono ?_); rintro e w6 ⟨v6, rfl, ho6, hb6⟩)
                  | (go_at_call 33; refine (rheader_w sq (HWO5.out.below hb6).wp (by rw [HLEN.out]; exact hk11) (Sl.ofOwn ho6) (by rw [HSL.out]; omega)).mono ?_; rintro e w7 ⟨v7, rfl, ho7, hb7⟩))
                have hb57 := low_trans hb6 hb7
                obtain ⟨g, cw, rfl⟩ := own_form ho7 (by omega)
                have hws : Sl eb w7 (.slice (some ⟨g, 0, none⟩) 128 cw) (Jr.head sq (Jr.logged d k) (Jr.slots d)) := Sl.ofOwn ho7
                have HLOW7 := Lib.hid (stepAny HLW5.out hb57)
                have HWO7 := Lib.hid (HWO5.out.below hb57)
                have hs57 := hb57.size
                obtain ⟨-, -, -, -, -, hcw, hcwm⟩ := hws.addr (by omega)
                have hhW : ∀ W, Below w7.heap.size w7 W → Sl eb W (.slice (some ⟨b, off + 128, none⟩) 128 (cap - 128)) (Jr.blk d 1) := fun W hW => HH.out.below (stepAny HLOW7.out hW) (Nat.le_refl _)
                have hwW : ∀ W, Below w7.heap.size w7 W → Sl eb W (.slice (some ⟨g, 0, none⟩) 128 cw) (Jr.head sq (Jr.logged d k) (Jr.slots d)) := fun W hW => hws.below hW (Nat.le_refl _)
                have HC1 : Hid (∀ W, Below w7.heap.size w7 W → (convert 29 9 (.slice (some ⟨b, off + 128, none⟩) 20 (cap - 128))).run Try.prog W = .ok (.string ⟨((Jr.blk d 1).take 20).toArray⟩) W) := fun W hW => conv_sl (by simpa using (hhW W hW).cut 0 20 (by omega))
                have HC2 : Hid (∀ W, Below w7.heap.size w7 W → (convert 29 9 (.slice (some ⟨g, 0, none⟩) 20 cw)).run Try.prog W = .ok (.string ⟨((Jr.head sq (Jr.logged d k) (Jr.slots d)).take 20).toArray⟩) W) := fun W hW => conv_sl (by simpa using (hwW W hW).cut 0 20 (by omega))
                have HC3 : Hid (∀ W, Below w7.heap.size w7 W → (convert 29 9 (.slice (some ⟨b, off + 128 + 28, none⟩) 100 (cap - 128 - 28))).run Try.prog W = .ok (.string ⟨((Jr.blk d 1).drop 28).toArray⟩) W) := fun W hW => conv_sl (by
                  have h := (hhW W hW).cut 28 100 (by omega)
                  rw [List.take_of_length_le (by rw [List.length_drop, HHL.out]; omega)] at h
                  exact h)
                have HC4 : Hid (∀ W, Below w7.heap.size w7 W → (convert 29 9 (.slice (some ⟨g, 28, none⟩) 100 (cw - 28))).run Try.prog W = .ok (.string ⟨((Jr.head sq (Jr.logged d k) (Jr.slots d)).drop 28).toArray⟩) W) := fun W hW => conv_sl (by
                  have h := (hwW W hW).cut 28 100 (by omega)
                  rw [List.take_of_length_le (by rw [List.length_drop, Jr.head_eq, Jr.mk_len]; omega), Nat.zero_add] at h
                  exact h)
                have HC5 : Hid (∀ W, Below w7.heap.size w7 W → (convert 29 9 (.slice (some ⟨b, off + 128 + 20, none⟩) 8 (cap - 128 - 20))).run Try.prog W = .ok (.string ⟨(((Jr.blk d 1).drop 20).take 8).toArray⟩) W) := fun W hW => conv_sl ((hhW W hW).cut 20 8 (by omega))
                have HC6 : Hid (∀ W, Below w7.heap.size w7 W → (convert 29 9 (.slice (some ⟨g, 20, none⟩) 8 (cw - 20))).run Try.prog W = .ok (.string ⟨(((Jr.head sq (Jr.logged d k) (Jr.slots d)).drop 20).take 8).toArray⟩) W) := fun W hW => conv_sl (by
                  have h := (hwW W hW).cut 20 8 (by omega)
                  rw [Nat.zero_add] at h
                  exact h)
                have HZ7 : Hid (∀ l e, RetRead 66 d w (.returned (.tuple #[.int .i64 0, .slice none 0 0, .int .i64 e])) l → True) := fun _ _ _ => trivial
                clear ho6 ho7 hb6 hb7 hb57 hws hhW hwW HZ7
                generalize (Jr.blk d 1).take 20 = t1 at *
                generalize (Jr.head sq (Jr.logged d k) (Jr.slots d)).take 20 = t2 at *
                generalize (Jr.blk d 1).drop 28 = t3 at *
                generalize (Jr.head sq (Jr.logged d k) (Jr.slots d)).drop 28 = t4 at *
                generalize ((Jr.blk d 1).drop 20).take 8 = t5 at *
                generalize ((Jr.head sq (Jr.logged d k) (Jr.slots d)).drop 20).take 8 = t6 at *
                have hc1 := HC1.out _ (low_drew w7)
                have hc2 := HC2.out _ (low_drew w7)
                have hc3 := HC3.out _ (low_drew w7)
                have hc4 := HC4.out _ (low_drew w7)
                unfold maxLen at hcwm
                by_cases p1 : t1 = t2
                · by_cases p2 : t3 = t4
                  · by_cases p3 : t5 = t6
                    · have HR : Hid (Jr.read d = (sq, Jr.logged d k, 0)) := HGD.out.trans ((if_neg (fun h => h.elim (fun h => h p1) (fun h => h p2))).trans (if_neg (fun h => h p3)))
                      clear HGD
                      subst p1 p2 p3
                      go_region
                      all_goals
                        have hc5 := HC5.out _ (low_drew w7).drew
                        have hc6 := HC6.out _ (low_drew w7).drew
                        go_wp2_with fail
                        go_region
                        all_goals
                          go_wp2_with fail
                          go_ret3
                          exact retRead_mk HR.out ((HWO7.out.below ((low_drew w7).drew)).base (Nat.le_trans HBL.out.size (Nat.le_refl _))) (HLOW7.out.drew.drew)
                    · obtain ⟨n1, n2⟩ := str_ne p3
                      have HR : Hid (Jr.read d = (0, [], 5)) := HGD.out.trans ((if_neg (fun h => h.elim (fun h => h p1) (fun h => h p2))).trans (if_pos p3))
                      clear HGD
                      subst p1 p2
                      go_region
                      all_goals
                        have hc5 := HC5.out _ (low_drew w7).drew
                        have hc6 := HC6.out _ (low_drew w7).drew
                        go_wp2_with fail
                        go_region
                        all_goals
                          go_wp2_with fail
                          go_ret3
                          exact retRead_mk HR.out Wo.nil (HLOW7.out.drew.drew)
                  · obtain ⟨n1, n2⟩ := str_ne p2
                    have HR : Hid (Jr.read d = (0, [], 4)) := HGD.out.trans (if_pos (.inr p2))
                    clear HGD
                    subst p1
                    go_region
                    all_goals
                      go_wp2_with fail
                      go_ret3
                      exact retRead_mk HR.out Wo.nil HLOW7.out.drew
                · obtain ⟨n1, n2⟩ := str_ne p1
                  have HR : Hid (Jr.read d = (0, [], 4)) := HGD.out.trans (if_pos (.inl p1))
                  clear HGD
                  go_region
                  all_goals
                    go_wp2_with fail
                    go_ret3
                    exact retRead_mk HR.out Wo.nil HLOW7.out.drew
end Go.Proofs.Ytcbgablnbgpjdaa
