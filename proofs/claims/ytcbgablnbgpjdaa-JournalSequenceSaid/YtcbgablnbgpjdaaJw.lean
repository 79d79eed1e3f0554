/-
  The walk of Plan of the reference.
-/
import Derived.Test.YtcbgablnbgpjdaaJv
namespace Go.Proofs.Ytcbgablnbgpjdaa
open Go.RowKit

set_option maxRecDepth 100000 in
set_option maxHeartbeats 4000000 in
theorem rplan_w {v u : Value} {d : List UInt8} {ls : List Jr.Wr} {w : World} (hv : Sl eb w v d) (hu : Wp w u ls) (hl : ls.length ≤ 1000) : Calls Try.prog 16 #[v, u] w (RetPlan d ls w) := by
  obtain ⟨a, cap, rfl, hc, hm, hna, -⟩ := id hv
  obtain ⟨ua, ucap, rfl, h1, h2, h3, hop⟩ := hu.open
  obtain ⟨⟨n, old, c⟩, hr⟩ : ∃ x, Jr.read d = x := ⟨_, rfl⟩
  have HPL := Lib.hid (Jr.plan_at hr ls)
  have HRD : Hid (Calls Try.prog 27 #[.slice a d.length cap] w fun e w' => ∃ a k, e = .returned (.tuple #[.int .i64 n, .slice a old.length k, .int .i64 c]) ∧ Wo w.heap.size 66 [] w' (.slice a old.length k) old ∧ Below w.heap.size w w') := (rread_w hv).mono fun _ _ h => h.at hr
  have HVL : Hid (∀ W, Below w.heap.size w W → Calls Try.prog 20 #[.slice ua ls.length ucap] W fun e w' => e = .returned (.bool (Jr.valid ls)) ∧ Below W.heap.size W w') := fun W hW => rvalid_w (hu.below hW (Nat.le_refl _)) hl
  have HOP := Lib.hid hop
  have HWP := Lib.hid hu
  have HV := Lib.hid hv
  unfold maxLen at hm
  by_cases hc0 : c = 0
  rotate_left
  · have HR : Hid (Jr.plan d ls = ([], [], c)) := HPL.out.trans (if_pos hc0)
    have hq : (c != 0) = true := by simp [hc0]
    clear hr hc0 hop hu hv
    go_enter Try.func16, Try.ntmps16
    go_wp2_with (go_at_call 27; (with_reducible refine HRD.out.mono ?_); rintro e w1 ⟨a1, k1, rfl, ho1, hb1⟩)
    go_ret3
    exact retPlan_mk HR.out Wp.nil Wp.nil hb1
  subst hc0
  obtain ⟨hd, hnq, -, -, -⟩ := Jr.read_ok hr
  have hsb := Jr.seq_bound d hd
  rw [← hnq] at hsb
  obtain ⟨hn0, hn1⟩ := hsb
  have HP0 := Lib.hid (HPL.out.trans (if_neg (by simp)))
  have HDL := Lib.hid hd
  clear hr hnq hop hu hv hd
  cases hval : Jr.valid ls with
  | false =>
    have HR : Hid (Jr.plan d ls = ([], [], 1)) := HP0.out.trans (if_pos hval)
    rw [hval] at HVL
    clear hval
    go_enter Try.func16, Try.ntmps16
    go_wp2_with (first
      | (go_at_call 27; (with_reducible refine HRD.out.mono ?_); rintro e w1 ⟨a1, k1, rfl, ho1, hb1⟩)
      | (go_at_call 20; (with_reducible refine (HVL.out _ hb1).mono ?_); rintro e w2 ⟨rfl, hb2⟩))
    go_ret3
    exact retPlan_mk HR.out Wp.nil Wp.nil (stepAny hb1 hb2)
  | true =>
    have HP1 := Lib.hid (HP0.out.trans (if_neg (by rw [hval]; simp)))
    rw [hval] at HVL
    have HVAL := Lib.hid hval
    clear hval
    by_cases hol : old.length = 0
    rotate_left
    · have HR : Hid (Jr.plan d ls = ([], [], 7)) := HP1.out.trans (if_pos (fun e => hol (by rw [e]; rfl)))
      have f0 : (0 : Int) < (old.length : Int) := by omega
      clear hol
      go_enter Try.func16, Try.ntmps16
      go_wp2_with (first
        | (go_at_call 27; (with_reducible refine HRD.out.mono ?_); rintro e w1 ⟨a1, k1, rfl, ho1, hb1⟩)
        | (go_at_call 20; (with_reducible refine (HVL.out _ hb1).mono ?_); rintro e w2 ⟨rfl, hb2⟩))
      go_ret3
      exact retPlan_mk HR.out Wp.nil Wp.nil (stepAny hb1 hb2)
    · have HP2 := Lib.hid (HP1.out.trans (if_neg (by rw [List.eq_nil_of_length_eq_zero hol]; simp)))
      have f0 : ¬ (0 : Int) < (old.length : Int) := by omega
      have fd : decide (0 < old.length) = false := by rw [decide_eq_false_iff_not]; omega
      clear hol
      by_cases hn : n = 4294967295
      · have HR : Hid (Jr.plan d ls = ([], [], 2)) := HP2.out.trans (if_pos hn)
        have hq : (n == 4294967295) = true := by simp [hn]
        clear hn
        go_enter Try.func16, Try.ntmps16
        go_wp2_with (first
          | (go_at_call 27; (with_reducible refine HRD.out.mono ?_); rintro e w1 ⟨a1, k1, rfl, ho1, hb1⟩)
          | (go_at_call 20; (with_reducible refine (HVL.out _ hb1).mono ?_); rintro e w2 ⟨rfl, hb2⟩))
        go_ret3
        exact retPlan_mk HR.out Wp.nil Wp.nil (stepAny hb1 hb2)
      · have HR : Hid (Jr.plan d ls = (Jr.logs ls ++ [(1, Jr.mk 49 (ls.map Prod.fst) (n + 1) (Jr.slots (Jr.app d (Jr.logs ls))))], Jr.homes (n + 1) ls, 0)) := HP2.out.trans (if_neg hn)
        have hq : (n == 4294967295) = false := by simp [hn]
        have hn2 : n + 1 ≤ 4294967295 := by omega
        have hn3 : (0 : Int) ≤ n + 1 := by omega
        obtain ⟨hall8, -, hge1, hle11⟩ := Jr.valid_all HVAL.out
        have HL8 : Hid (∀ i (h : i < ls.length), ls[i].2.length = 128) := fun i h => (hall8 _ (List.getElem_mem h)).2
        have HLT := Lib.hid (fun k hk => Jr.logs_take ls k hk)
        have HLL := Lib.hid (Jr.logs_len ls)
        have HAPP := Lib.hid (Jr.apply_all HDL.out (Jr.logs_fit HVAL.out))
        have HAPL := Lib.hid (Jr.app_length HDL.out (Jr.logs_fit HVAL.out))
        have HHD : Hid (Jr.head (n + 1) ls (Jr.slots (Jr.app d (Jr.logs ls))) = Jr.mk 49 (ls.map Prod.fst) (n + 1) (Jr.slots (Jr.app d (Jr.logs ls)))) := if_neg (fun e => by rw [e] at hge1; simp at hge1)
        have hdl := HDL.out
        rw [hdl] at HV HRD hc ⊢
        clear hall8 hn hdl
        obtain ⟨b0, off0, rfl, hb0, -, -, -⟩ := HV.out.addr (by omega)
        obtain ⟨i0, hi, hz0, hz1, hz2⟩ := info_parts Try.info5
        obtain ⟨iJ, hiJ, hzJ0, hzJ1, hzJ2⟩ := info_parts Try.infoR
        go_enter Try.func16, Try.ntmps16
        go_upto_region 10 with (first
          | (go_at_call 27; (with_reducible refine HRD.out.mono ?_); rintro e w1 ⟨a1, k1, rfl, ho1, hb1⟩)
          | (go_at_call 20; (with_reducible refine (HVL.out _ hb1).mono ?_); rintro e w2 ⟨rfl, hb2⟩; have hb12 := stepAny hb1 hb2))
        have HB2 := Lib.hid hb12
        have hs2 := hb12.size
        clear ho1 hb1 hb2 hb12
        go_wp2_with fail
        go_loopw [10, 11] (fun s10 i wr => ∃ (k : Nat) (v : Value), v = s10 ∧ i = .int .i64 k ∧ k ≤ ls.length ∧ Wo w2.heap.size 66 [] wr v ((Jr.logs ls).take k) ∧ Below w2.heap.size w2 wr) (fun _ i _ => ls.length - (intOf i).toNat)
        case atStart => exact ⟨0, _, rfl, rfl, Nat.zero_le _, Wo.nil, Below.refl _ _⟩
        case round =>
          obtain ⟨k, v, rfl, rfl, hk, hwo, hbl⟩ := hrel
          have hlk : ((Jr.logs ls).take k).length = k := by rw [List.length_take, HLL.out]; omega
          obtain ⟨av, cv, hav, -, -⟩ := hwo.slice
          rw [hlk] at hav
          subst hav
          have HLK := Lib.hid hlk
          have HWO := Lib.hid hwo
          have HBL := Lib.hid hbl
          have hbs := hbl.size
          by_cases hlt : k < ls.length
          · obtain ⟨b, off, a', c', rfl, hbw, ⟨x0, x1⟩, hsx⟩ := HOP.out k hlt
            have hl8 := HL8.out k hlt
            have HLTk := Lib.hid (HLT.out k hlt)
            rw [hl8] at x1 hsx
            have HL8k := Lib.hid hl8
            have hlow := stepAny HB2.out hbl
            have HLOW := Lib.hid hlow
            have y1 : wr.cell? ⟨b, off + k * 2 + 1, none⟩ = some (.slice a' 128 c') := (hlow.cell (p := ⟨b, off + k * 2 + 1, none⟩) hbw).trans x1
            have y1a : ∀ o, (wr.alloc o).cell? ⟨b, off + k * 2 + 1, none⟩ = some (.slice a' 128 c') := fun o => ((hlow.alloc hlow.size o).cell (p := ⟨b, off + k * 2 + 1, none⟩) hbw).trans x1
            have HRD2 : Hid (∀ W, Below w.heap.size w W → Sl eb W (.slice a' 128 c') ls[k].2) := fun W hW => hsx.below hW (Nat.le_refl _)
            have f1 : (0 : Int) ≤ (k : Int) := by omega
            have f2 : (k : Int) < (ls.length : Int) := by omega
            have hcast : ((2 + k : Nat) : Int) = 2 + (k : Int) := by omega
            rw [hcast] at HLTk
            clear hlk hwo hbl x0 x1 hsx hl8 hcast hlow
            generalize ls[k].2 = bs at *
            go_wp2_with (first
              | (at_builtin; refine wpList_append_sl eb (fun _ => rfl) rfl (.tmp 44) (.tmp 49) 29 rfl wr.heap.size 5 i0 (.int .u8 0) 1 Try.underlying29 hi hz0 hz1 hz2 rfl (.slice (some ⟨wr.heap.size, 0, none⟩) 0 0) 0 [] rfl (World.ownsRow_made wr #[] 0 (Nat.le_refl _) (Nat.zero_le _) rfl) (.slice a' 128 c') bs rfl (HRD2.out _ (HLOW.out.alloc HLOW.out.size _)) (by rw [HL8k.out]; unfold maxLen; omega) (by rw [HL8k.out]; omega) (by simp) ?_; intro v5 w5 ho5 hs5 hb5; rw [HL8k.out, Nat.zero_add, List.nil_append] at ho5; obtain ⟨a5, c5, rfl⟩ := own_slice ho5; have hb5' := (low_alloc wr _).trans hb5)
              | (at_builtin; refine wpList_append_wo rfl (.tmp 41) (.tmp 52) 22 rfl w2.heap.size 66 iJ _ Try.underlying22 hiJ hzJ0 hzJ1 hzJ2 rfl [] (.slice av k cv) ((Jr.logs ls).take k) rfl ((HWO.out.below hb5').below (low_alloc _ _)) (by rw [HLK.out]; omega) w5.heap.size (2 + (k : Int)) (.slice a5 128 c5) bs rfl (heap_alloc_new _ _) ((own_av ho5 (by simp) fun b hb => (HWO.out.lt b hb).2).alloc _) (by simp; have := hb5'.size; omega) ?_; intro v7 w7 hwo7 hs7 hb7; have hb7' := ((HBL.out.trans (hb5'.mono hbs)).alloc (by have := hb5'.size; omega) _).trans hb7))
            go_roundw
            case rel => exact ⟨k + 1, _, rfl, by go_num, by omega, by rw [HLTk.out]; exact hwo7, hb7'⟩
            case measure => simp [intOf]; omega
          · obtain rfl : k = ls.length := by omega
            have hwl : Wo w2.heap.size 66 [] wr (.slice av ls.length cv) (Jr.logs ls) := by
              have h := hwo
              rw [List.take_of_length_le (by rw [HLL.out]; exact Nat.le_refl _)] at h
              exact h
            have HWL := Lib.hid hwl
            have HLOW := Lib.hid (stepAny HB2.out hbl)
            have HAP : Hid (Calls Try.prog 24 #[.slice (some ⟨b0, off0, none⟩) 12288 cap, .slice av ls.length cv] wr fun e w' => ∃ a k, e = .returned (.tuple #[.slice a 12288 k, .int .i64 0]) ∧ w'.ownsRow wr.heap.size 5 1 (.slice a 12288 k) 12288 ((Jr.app d (Jr.logs ls)).map eb) ∧ Below wr.heap.size wr w') :=
              (rapply_w (HV.out.below (stepAny HB2.out hbl) (Nat.le_refl _)) hwl.wp (by rw [HLL.out]; omega)).mono fun _ _ h => by
                have h2 := h.at HAPP.out
                rw [HAPL.out] at h2
                exact h2
            have HUW : Hid (∀ W, Below w.heap.size w W → Wp W (.slice ua ls.length ucap) ls) := fun W hW => HWP.out.below hW (Nat.le_refl _)
            have HSLL : Hid ((Jr.slots (Jr.app d (Jr.logs ls))).length = 1408) := by show _ = _; unfold Jr.slots; rw [List.length_take, List.length_drop, HAPL.out]; rfl
            clear hwo hwl hbl hlk
            go_upto_region 16 with (go_at_call 24; (with_reducible refine HAP.out.mono ?_); rintro e w5 ⟨a5, c5, rfl, ho5, hb5⟩)
            obtain ⟨g5, c5', e5⟩ := own_form ho5 (by omega)
            injection e5 with e51 _ e52
            subst e51 e52
            have HWL5 := Lib.hid (HWL.out.below hb5)
            have HLOW5 := Lib.hid (stepAny HLOW.out hb5)
            have HB25 : Hid (Below w2.heap.size w2 w5) := HBL.out.trans (hb5.mono hbs)
            have HRS := Lib.hid (rslots_w (Sl.ofOwn ho5))
            clear ho5 hb5
            go_upto_region 17 with (first
              | (go_at_call 34; (with_reducible refine HRS.out.mono ?_); rintro e w6 ⟨v6, rfl, ho6, hb6⟩)
              | (go_at_call 33; refine (rheader_w (n + 1) (HUW.out _ (stepAny HLOW5.out hb6)) hle11 (Sl.ofOwn ho6) (by rw [HSLL.out]; omega)).mono ?_; rintro e w7 ⟨v7, rfl, ho7, hb7⟩; obtain ⟨a7, c7, rfl⟩ := own_slice ho7; have hb57 := low_trans hb6 hb7)
              | (at_builtin; refine wpList_append_wo rfl (.tmp 60) (.tmp 68) 22 rfl w2.heap.size 66 iJ _ Try.underlying22 hiJ hzJ0 hzJ1 hzJ2 rfl [] (.slice av ls.length cv) (Jr.logs ls) rfl ((HWL5.out.below hb57).below (low_alloc _ _)) (by rw [HLL.out]; omega) w7.heap.size 1 (.slice a7 128 c7) (Jr.head (n + 1) ls (Jr.slots (Jr.app d (Jr.logs ls)))) rfl (heap_alloc_new _ _) ((own_av ho7 (by simp) fun b hb => by have := (HWL5.out.lt b hb).2; have := hb6.size; omega).alloc _) (by simp; have := hb57.size; have := HB25.out.size; omega) ?_; intro v8 w8 hwo8 hs8 hb8))
            rw [HHD.out] at hwo8
            have hlow8 : Below w2.heap.size w2 w8 := ((HB25.out.trans (hb57.mono HB25.out.size)).alloc (by have := hb57.size; have := HB25.out.size; omega) _).trans hb8
            have HWO8 := Lib.hid hwo8
            have HLOW8 := Lib.hid (stepAny HB2.out hlow8)
            have HHO := Lib.hid (rhome_w (n + 1) (HUW.out _ (stepAny HB2.out hlow8)) (by omega) HL8.out)
            clear hwo8 hlow8 hs8 hb8 hb57 ho6 ho7 hb6 hb7
            go_wp2_with (go_at_call 38; (with_reducible refine HHO.out.mono ?_); rintro e w9 ⟨v9, rfl, hwo9, hb9⟩)
            go_ret3
            exact retPlan_mk HR.out (HWO8.out.below hb9).wp hwo9.wp (stepAny HLOW8.out hb9)
end Go.Proofs.Ytcbgablnbgpjdaa
