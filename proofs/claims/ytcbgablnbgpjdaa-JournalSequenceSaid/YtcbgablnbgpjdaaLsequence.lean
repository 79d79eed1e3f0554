/-
  The walk of the law JournalSequence (printed by gen/mk36law.py).
-/
import Derived.Test.YtcbgablnbgpjdaaArgs
import Derived.Test.YtcbgablnbgpjdaaJc
import Derived.Test.YtcbgablnbgpjdaaLw
import Derived.Test.YtcbgablnbgpjdaaArgs2
namespace Go.Proofs.Ytcbgablnbgpjdaa
open Go.RowKit

set_option maxRecDepth 100000 in
set_option maxHeartbeats 8000000 in
theorem lsequence_w {v0 v1 v2 : Value} {w : World} (o0 : IsSp w v0) (o1 : IsUps w v1) (o2 : IsU8 w v2) : Calls Try.prog 8 #[v0, v1, v2] w fun e w' => e = .returned (.bool true) ∧ Below w.heap.size w w' := by
  obtain ⟨⟨bl, seq, lg⟩, u1, u2, rfl, hw1, hw2, hq0, hq1⟩ := o0
  obtain ⟨vs, us, hu0, hul, hu1⟩ := o1
  obtain ⟨kb, ekb⟩ := o2
  replace ekb : v2 = .int .u8 (kb.toNat : Int) := ekb
  subst ekb
  simp only at hw1 hw2 hq0 hq1
  obtain ⟨a1, c1, rfl⟩ := hw1.slice
  obtain ⟨a2, c2, rfl⟩ := hw2.slice
  obtain ⟨W1, hW1⟩ : ∃ W1, W1 = w.alloc (.cells #[.slice a1 bl.length c1, .int .u32 seq, .slice a2 lg.length c2] 25 (0, 0)) := ⟨_, rfl⟩
  have hs1 : W1.heap.size = w.heap.size + 1 := by rw [hW1]; simp
  have hbx : Bk W1 w.heap.size 25 [.slice a1 bl.length c1, .int .u32 seq, .slice a2 lg.length c2] := by rw [hW1]; exact Bk.new w _ [_, _, _]
  have hlow1 : Below w.heap.size w W1 := by rw [hW1]; exact low_alloc _ _
  have HLW : Hid (∀ W, Below W1.heap.size W1 W → Below w.heap.size w W) := fun W hW => stepAny hlow1 hW
  have HFW : Hid (∀ W, Below W1.heap.size W1 W → Calls Try.prog 11 #[.agg #[.slice a1 bl.length c1, .int .u32 seq, .slice a2 lg.length c2]] W fun e w' => e = .returned (.bool (Jr.few (bl, seq, lg))) ∧ Below W.heap.size W w') := fun W hW =>
    few_w ⟨_, _, rfl, hw1.below (HLW.out W hW) (Nat.le_refl _), hw2.below (HLW.out W hW) (Nat.le_refl _), hq0, hq1⟩
  have HFS : Hid (Jr.few (bl, seq, lg) = true → (∀ w ∈ bl, w.2.length ≤ 300) ∧ bl.length ≤ 20 ∧ (∀ w ∈ lg, w.2.length ≤ 300) ∧ lg.length ≤ 20) := fun hf => by
    unfold Jr.few Jr.short at hf
    simp only [Bool.and_eq_true, decide_eq_true_eq] at hf
    exact ⟨hf.1.1, hf.1.2, hf.2.1, hf.2.2⟩
  have HAW := Lib.hid (fun W => awake_w W)
  obtain ⟨av, cv, rfl, hcv, hcm, -, hrv⟩ := hu0
  unfold maxLen at hcm
  have HVV : Hid (∀ k, k < vs.length → ∃ (b off : Nat) (a' : Option Addr) (c' : Nat) (l : List Jr.Wr), av = some ⟨b, off, none⟩ ∧ b < w.heap.size ∧ w.cell? ⟨b, off + k, none⟩ = some (.slice a' l.length c') ∧ Wp w (.slice a' l.length c') l) := fun k h => by
    obtain ⟨b, off, rfl, h1, h2⟩ := hrv.form (by omega)
    replace h2 := h2 k h
    have hw := hu1 k h (by omega)
    obtain ⟨a', c', e⟩ := hw.slice
    rw [e] at hw
    exact ⟨b, off, a', c', us[k], rfl, h1, by rw [h2]; exact congrArg some e, hw⟩
  have HSS : Hid (∀ ls, Jr.short ls = true → ls.length ≤ 20 ∧ ∀ i (h : i < ls.length), ls[i].2.length ≤ 1000) := fun ls hf => by
    unfold Jr.short at hf
    simp only [Bool.and_eq_true, decide_eq_true_eq] at hf
    exact ⟨hf.2, fun i h => by have := hf.1 _ (List.getElem_mem h); omega⟩
  have HU1 : Hid (∀ W, Below w.heap.size w W → Wp W (.slice a1 bl.length c1) bl) := fun W hW => hw1.below hW (Nat.le_refl _)
  have HQ : Hid (∀ W, Below W1.heap.size W1 W → W.cell? ⟨w.heap.size, 0, none⟩ = some (.slice a1 bl.length c1) ∧ W.cell? ⟨w.heap.size, 1, none⟩ = some (.int .u32 seq) ∧ W.cell? ⟨w.heap.size, 2, none⟩ = some (.slice a2 lg.length c2)) := fun W hW => by
    have h := hbx.below hW (by omega)
    exact ⟨h.cell 0, h.cell 1, h.cell 2⟩
  have HBX := Lib.hid hbx
  have HL1 : Hid (∀ p : Addr, w.heap.size ≤ p.block → ∀ W v, Below w.heap.size w W → Below w.heap.size w (W.setCell p v)) := fun p hp W v hW => hW.setCell hp v
  have HW1 := Lib.hid hW1
  clear hw1 hw2 hbx hlow1 hW1 hrv hu1 hul
  generalize vs.length = M at *
  go_enter Try.func8, Try.ntmps8
  go_upto_region 1 with fail
  rw [← HW1.out]
  go_upto_region 3 with (go_at_call 10; (with_reducible refine (HAW.out _).mono ?_); rintro e w2 ⟨rfl, hb2⟩)
  obtain ⟨y0, y1, y2⟩ := HQ.out w2 hb2
  have HB2 := Lib.hid hb2
  clear hb2
  cases hf : Jr.few (bl, seq, lg) with
  | false =>
    rw [hf] at HFW
    clear hf
    go_wp2_with (go_at_call 11; (with_reducible refine (HFW.out _ HB2.out).mono ?_); rintro e w3 ⟨rfl, hb3⟩)
    go_ret
    exact ⟨rfl, HLW.out _ (stepAny HB2.out hb3)⟩
  | true =>
    have hl1 := (HFS.out hf).2.1
    rw [hf] at HFW
    clear hf
    by_cases c5 : 5 < M
    · have f5 : (5 : Int) < (M : Int) := by omega
      clear c5
      go_wp2_with (go_at_call 11; (with_reducible refine (HFW.out _ HB2.out).mono ?_); rintro e w3 ⟨rfl, hb3⟩)
      go_ret
      exact ⟨rfl, HLW.out _ (stepAny HB2.out hb3)⟩
    by_cases c0 : M = 0
    · subst c0
      clear c5
      go_wp2_with (go_at_call 11; (with_reducible refine (HFW.out _ HB2.out).mono ?_); rintro e w3 ⟨rfl, hb3⟩)
      go_ret
      exact ⟨rfl, HLW.out _ (stepAny HB2.out hb3)⟩
    have f5 : ¬ (5 : Int) < (M : Int) := by omega
    have f0 : ¬ ((M : Int) = 0) := by omega
    have f0' : ((M : Int) == 0) = false := by simp; omega
    go_upto_region 5 with (go_at_call 11; (with_reducible refine (HFW.out _ HB2.out).mono ?_); rintro e w3 ⟨rfl, hb3⟩)
    have hb13 := stepAny HB2.out hb3
    have hs13 := hb13.size
    clear y0 y1 y2
    obtain ⟨y0, y1, y2⟩ := HQ.out w3 hb13
    have z2 := ((HBX.out.below hb13 (by omega)).frozen 2)
    go_upto_region 6 with fail
    have hk5 : Bk (w3.setCell ⟨w.heap.size, 2, none⟩ (.slice none 0 0)) w.heap.size 25 [.slice a1 bl.length c1, .int .u32 seq, .slice none 0 0] := (HBX.out.below hb13 (by omega)).set 2 _
    have hlow5 : Below w.heap.size w (w3.setCell ⟨w.heap.size, 2, none⟩ (.slice none 0 0)) := HL1.out ⟨w.heap.size, 2, none⟩ (Nat.le_refl _) w3 _ (HLW.out _ hb13)
    clear y0 y1 y2 z2 hb3 hb13
    generalize w3.setCell ⟨w.heap.size, 2, none⟩ (.slice none 0 0) = W5 at *
    have y1 : W5.cell? ⟨w.heap.size, 1, none⟩ = some (.int .u32 seq) := hk5.cell 1
    have z1 := hk5.frozen 1
    obtain ⟨s0, hs0⟩ : ∃ s0, seq % 1000 = s0 := ⟨_, rfl⟩
    have hs01 : 0 ≤ s0 := by omega
    have hs02 : s0 < 1000 := by omega
    go_upto_region 7 with fail
    have hk6 : Bk (W5.setCell ⟨w.heap.size, 1, none⟩ (.int .u32 s0)) w.heap.size 25 [.slice a1 bl.length c1, .int .u32 s0, .slice none 0 0] := hk5.set 1 _
    have hlow6 : Below w.heap.size w (W5.setCell ⟨w.heap.size, 1, none⟩ (.int .u32 s0)) := HL1.out ⟨w.heap.size, 1, none⟩ (Nat.le_refl _) W5 _ hlow5
    clear y1 z1 hk5 hlow5 hs0
    generalize W5.setCell ⟨w.heap.size, 1, none⟩ (.int .u32 s0) = W6 at *
    have HC : Hid (∀ W, Below W6.heap.size W6 W → W.cell? ⟨w.heap.size, 0, none⟩ = some (.slice a1 bl.length c1) ∧ W.cell? ⟨w.heap.size, 1, none⟩ = some (.int .u32 s0) ∧ W.cell? ⟨w.heap.size, 2, none⟩ = some (.slice none 0 0)) := fun W hW => by
      have h := hk6.below hW hk6.lt
      exact ⟨h.cell 0, h.cell 1, h.cell 2⟩
    obtain ⟨y0, y1, y2⟩ := HC.out W6 (low_refl _)
    have HDW := Lib.hid (rdisk_w (HU1.out W6 hlow6) (Wp.nil (w := W6)) hs01 (by omega) (by omega) (by simp))
    unfold RetDisk at HDW
    have HDL := Lib.hid (Jr.disk_length (bl, s0, []))
    have HRD : Hid (Jr.read (Jr.disk (bl, s0, [])) = (s0, [], 0)) := by
      have h := Jr.read_disk (bl, s0, []) hs01 (by simp only; omega)
      have e : Jr.logOf (bl, s0, []) = [] := by unfold Jr.logOf; split <;> rfl
      rw [e] at h
      exact h
    have HLOW6 := Lib.hid hlow6
    generalize Jr.disk (bl, s0, []) = D0 at *
    clear hk6 hlow6
    go_upto_region 8 with (go_at_call 13; (with_reducible refine HDW.out.mono ?_); rintro e w7 ⟨g, cg, rfl, ho7, hb7⟩)
    have HO7 := Lib.hid ho7
    have HB7 := Lib.hid hb7
    clear ho7 hb7 y0 y1 y2
    go_wp2_with fail
    go_loopw [7, 8, 9, 10, 11, 12, 13, 14, 15, 16, 17, 18, 19, 20, 21, 22, 23, 24, 49] (fun s7 _ _ _ _ _ _ _ _ _ _ _ _ _ _ _ _ _ s49 wr => ∃ (k : Nat) (ad : Option Addr) (cd : Nat) (D : List UInt8), s7 = .slice ad 12288 cd ∧ s49 = .int .i64 k ∧ k ≤ M ∧ Sl eb wr (.slice ad 12288 cd) D ∧ D.length = 12288 ∧ (k < M → Jr.read D = (s0 + k, [], 0)) ∧ Below W6.heap.size W6 wr) (fun _ _ _ _ _ _ _ _ _ _ _ _ _ _ _ _ _ _ s49 _ => M - (intOf s49).toNat)
    case atStart => exact ⟨0, _, _, D0, rfl, rfl, Nat.zero_le _, own_sl HO7.out (low_refl _), HDL.out, fun _ => by simpa using HRD.out, HB7.out⟩
    case round =>
      obtain ⟨k, ad, cd, D, rfl, rfl, hk, hsl, hdl, hrd, hlow⟩ := hrel
      have HS := Lib.hid hsl
      have HDL := Lib.hid hdl
      have HRD := Lib.hid hrd
      have HLO := Lib.hid hlow
      clear hsl hdl hrd hlow
      by_cases hlt : k < M
      · obtain ⟨b, off, a', c', l, rfl, hbw, x0, hwl⟩ := HVV.out k hlt
        have HX : Hid (∀ W, Below wr.heap.size wr W → W.cell? ⟨b, off + k, none⟩ = some (.slice a' l.length c')) := fun W hW => by
          rw [(stepAny HLOW6.out (stepAny HLO.out hW)).cell (p := ⟨b, off + k, none⟩) hbw]
          exact x0
        have HWL : Hid (∀ W, Below wr.heap.size wr W → Wp W (.slice a' l.length c') l) := fun W hW => hwl.below (stepAny HLOW6.out (stepAny HLO.out hW)) (Nat.le_refl _)
        have hrd := HRD.out hlt
        clear x0 hwl
        have x0 := HX.out wr (low_refl _)
        have HSW : Hid (Calls Try.prog 12 #[.slice a' l.length c'] wr fun e w' => e = .returned (.bool (Jr.short l)) ∧ Below wr.heap.size wr w') := (short_w (HWL.out wr (low_refl _))).mono fun _ _ h => ⟨h.1, h.2 ▸ low_refl wr⟩
        have f1 : (0 : Int) ≤ (k : Int) := by omega
        have f2 : (k : Int) < (M : Int) := by omega
        cases hsh : Jr.short l with
        | false =>
          rw [hsh] at HSW
          clear hsh
          go_wp2_with (go_at_call 12; (with_reducible refine HSW.out.mono ?_); rintro e w3' ⟨rfl, hb3'⟩)
          go_ret
          exact ⟨rfl, stepAny HLOW6.out (stepAny HLO.out hb3')⟩
        | true =>
          obtain ⟨hl20, hl300⟩ := HSS.out l hsh
          rw [hsh] at HSW
          clear hsh
          go_upto_region 13 with (go_at_call 12; (with_reducible refine HSW.out.mono ?_); rintro e w3' ⟨rfl, hb3'⟩)
          clear x0
          have x0 := HX.out w3' hb3'
          have HB3' := Lib.hid hb3'
          have HFU := Lib.hid (rfull_w (L := []) (by simp) (HWL.out w3' hb3') hl300)
          have hful : (Jr.full l).length ≤ 20 := by rw [Jr.full_len]; exact Nat.min_le_left _ _
          clear hl300 hb3'
          generalize Jr.full l = U at *
          go_upto_region 14 with (first
            | (go_at_call 21; (with_reducible refine HFU.out.mono ?_); rintro e w8 ⟨v8, rfl, hl8, hb8⟩)
            | (go_at_call 15; have hx := own_w hl8.wp (by omega); (with_reducible refine hx.mono ?_); clear hx; rintro e w9 ⟨v9, rfl, hl9, hb9⟩))
          have hb39 := stepAny HB3'.out (low_trans hb8 hb9)
          have HD9 := Lib.hid (HS.out.below hb39 (Nat.le_refl _))
          have HW9 := Lib.hid hl9.wp
          have HB9 := Lib.hid (stepAny HLO.out hb39)
          clear hl8 hb8 hl9 hb9 hb39 x0
          obtain ⟨a9, c9, hv9⟩ := HW9.out.slice
          subst hv9
          cases hval : Jr.valid U with
          | false =>
            have HPL : Hid (Jr.plan D U = ([], [], 1)) := by
              show _ = _
              rw [Jr.plan_at hrd, if_neg (by simp), if_pos (by rw [hval])]
            have HVW : Hid (∀ W, Below w9.heap.size w9 W → Calls Try.prog 19 #[.slice a9 U.length c9] W fun e w' => e = .returned (.bool false) ∧ Below W.heap.size W w') := fun W hW => by
              have h := jvalid_w (HW9.out.below hW (Nat.le_refl _)) (by omega)
              rw [hval] at h
              exact h
            clear hval
            go_wp2_with (first
              | (go_at_call 14; have hx := (jplan_w HD9.out HW9.out (by omega)).mono (fun _ _ h => h.at HPL.out); (with_reducible refine hx.mono ?_); clear hx; rintro e w10 ⟨a10, k10, a11, k11, rfl, hp10, hp11, hb10⟩)
              | (go_at_call 19; (with_reducible refine (HVW.out _ hb10).mono ?_); rintro e w11 ⟨rfl, hb11⟩))
            go_ret
            exact ⟨rfl, stepAny HLOW6.out (stepAny HB9.out (low_trans hb10 hb11))⟩
          | true =>
            obtain ⟨n, hn⟩ : ∃ n, s0 + (k : Int) = n := ⟨_, rfl⟩
            rw [hn] at hrd
            have hsq : n + 1 < 4294967296 := by omega
            have hpl : Jr.plan D U = (Jr.logs U ++ [Jr.hdr D n U], Jr.homes (n + 1) U, 0) := by
              rw [Jr.plan_at hrd, if_neg (by simp), if_neg (by rw [hval]; simp), if_neg (by simp), if_neg (by omega)]
              rfl
            have HALL : Hid (Jr.logs U ++ [Jr.hdr D n U] ++ Jr.homes (n + 1) U = Jr.writes D n U) := rfl
            have HPP : Hid ((Jr.logs U ++ [Jr.hdr D n U]).length = U.length + 1) := by simp [Hid, Jr.logs_len]
            have HQQ : Hid ((Jr.homes (n + 1) U).length = U.length + 1) := by simp [Hid, Jr.homes]
            have hu11 := (Jr.valid_all hval).2.2.2
            have HWF := Lib.hid (Jr.writes_fit D n hval)
            have HWLN := Lib.hid (Jr.writes_len D n U)
            have HAT := Lib.hid (fun k hk => Jr.atomic hrd hsq hval k hk)
            have HAU := Lib.hid (Jr.apply_all HDL.out (Jr.valid_fit hval))
            have HAUL := Lib.hid (Jr.app_length HDL.out (Jr.valid_fit hval))
            have HPL := Lib.hid hpl
            clear hpl hval hsq hrd
            generalize Jr.logs U ++ [Jr.hdr D n U] = P at *
            generalize Jr.homes (n + 1) U = Q at *
            generalize Jr.writes D n U = A at *
            have hpl0 : P.length = U.length + 1 := HPP.out
            have hql0 : Q.length = U.length + 1 := HQQ.out
            obtain ⟨N, hN⟩ : ∃ N, U.length = N := ⟨_, rfl⟩
            rw [hN] at hpl0 hql0 hu11
            obtain ⟨L, hL⟩ : ∃ L, A.length = L := ⟨_, rfl⟩
            have hLN : N + 1 + (N + 1) = L := by rw [← hL, HWLN.out, hN]
            have hkb := kb.toNat_lt
            obtain ⟨kk, hkl, hsel⟩ : ∃ kk, kk ≤ L ∧ ((k + 1 = M ∧ ((kb.toNat : Int) % ((L : Int) + 1)) = (kk : Int)) ∨ (k + 1 ≠ M ∧ kk = L)) := by
              by_cases h : k + 1 = M
              · exact ⟨kb.toNat % (L + 1), by have := Nat.mod_lt kb.toNat (show 0 < L + 1 by omega); omega, .inl ⟨h, by simp⟩⟩
              · exact ⟨L, Nat.le_refl _, .inr ⟨h, rfl⟩⟩
            obtain ⟨G, n9, q9, hrec, hgl, hrg, hhome, hfin⟩ := HAT.out kk (by omega)
            have HREC := Lib.hid hrec
            have HGL := Lib.hid hgl
            have HAPK : Hid (Jr.apply D (A.take kk) = (Jr.app D (A.take kk), 0)) := Jr.apply_all HDL.out fun x hx => HWF.out x (List.mem_of_mem_take hx)
            have HAPL : Hid ((Jr.app D (A.take kk)).length = 12288) := Jr.app_length HDL.out fun x hx => HWF.out x (List.mem_of_mem_take hx)
            have HHM := Lib.hid hhome
            rw [hL, hn.symm] at hfin
            have HFIN := Lib.hid hfin
            have HNX : Hid (k + 1 < M → kk = L) := fun h => by rcases hsel with ⟨h1, -⟩ | ⟨-, h2⟩; omega; exact h2
            have HNN := Lib.hid hN
            have HAL := Lib.hid hL
            have HPP2 := Lib.hid hpl0
            have HQQ2 := Lib.hid hql0
            obtain ⟨iJ, hiJ, hzJ0, hzJ1, hzJ2⟩ := info_parts Try.infoJ
            clear hrec hgl hrg hhome hfin hN hL hpl0 hql0 hn
            generalize Jr.app D (A.take kk) = AK at *
            generalize Jr.app D U = AU at *
            go_upto_region 18 with (first
              | (go_at_call 14; have hx := (jplan_w HD9.out HW9.out (by omega)).mono (fun _ _ h => h.at HPL.out); (with_reducible refine hx.mono ?_); clear hx; rintro e w10 ⟨a10, k10, a11, k11, rfl, hp10, hp11, hb10⟩; rw [HPP2.out] at hp10 ⊢; rw [HQQ2.out] at hp11 ⊢)
              | (at_builtin; refine wpList_append_ws rfl (.tmp 80) (.tmp 81) 31 rfl w10.heap.size 63 iJ _ Try.underlying31 hiJ hzJ0 hzJ1 hzJ2 rfl _ [] rfl wo_new _ P rfl w10 hp10 (low_alloc _ _) (Nat.le_refl _) (by rw [HPP2.out]; simp; omega) (by simp) ?_; intro v12 w12 hwo12 hs12 hb12; rw [List.nil_append] at hwo12)
              | (at_builtin; refine wpList_append_ws rfl (.tmp 82) (.tmp 83) 31 rfl w10.heap.size 63 iJ _ Try.underlying31 hiJ hzJ0 hzJ1 hzJ2 rfl _ P rfl hwo12 _ Q rfl w10 hp11 ((low_alloc _ _).trans hb12) (Nat.le_refl _) (by rw [HPP2.out, HQQ2.out]; omega) ((low_alloc _ _).trans hb12).size ?_; intro v13 w13 hwo13 hs13 hb13))
            rw [HALL.out] at hwo13
            obtain ⟨a13, c13, hv13, hc13, -⟩ := hwo13.slice
            rw [HAL.out] at hv13 hc13
            subst hv13
            have hb1013 : Below w10.heap.size w10 w13 := ((low_alloc _ _).trans hb12).trans hb13
            have hb913 := low_trans hb10 hb1013
            have HO13 := Lib.hid (HD9.out.below hb913 (Nat.le_refl _))
            have HW13 := Lib.hid (HW9.out.below hb913 (Nat.le_refl _))
            have HB13 := Lib.hid (stepAny HB9.out hb913)
            have HTK := Lib.hid (Wp.takeN (v := .slice none 0 0) hwo13.wp kk hkl)
            clear hp10 hp11 hb10 hwo12 hs12 hb12 hwo13 hs13 hb13 hb1013 hb913
            have g1 : (0 : Int) ≤ (kk : Int) := by omega
            have g2 : (kk : Int) ≤ (c13 : Int) := by omega
            rcases hsel with ⟨hlast, hki⟩ | ⟨hlast, hkL⟩
            · have hl1' : (k : Int) = (M : Int) - 1 := by omega
              clear hlast
              go_upto_region 21 with fail
              clear hl1'
              go_upto_region 24 with (first
                | (go_at_call 23; have hx := (japply_w HO13.out HTK.out (by rw [List.length_take]; omega)).mono (fun _ _ h => h.at HAPK.out); (with_reducible refine hx.mono ?_); clear hx; rintro e w14 ⟨a14, k14, rfl, ho14, hb14⟩)
                | (go_at_call 28; have hx := (jrecover_w (Sl.ofOwn ho14)).mono (fun _ _ h => h.at HREC.out); (with_reducible refine hx.mono ?_); clear hx; rintro e w15 ⟨a15, k15, rfl, ho15, hb15⟩; have hb1315 := low_trans hb14 hb15)
                | (go_at_call 23; have hx := (japply_w (HO13.out.below hb1315 (Nat.le_refl _)) (HW13.out.below hb1315 (Nat.le_refl _)) (by omega)).mono (fun _ _ h => h.at HAU.out); (with_reducible refine hx.mono ?_); clear hx; rintro e w16 ⟨a16, k16, rfl, ho16, hb16⟩; have hb1316 := low_trans hb1315 hb16))
              have hG := HGL.out
              have hAU := HAUL.out
              have hAK := HAPL.out
              rw [hG] at ho15 ⊢
              rw [hAU] at ho16 ⊢
              rw [hAK] at ho14 ⊢
              have HD16 := Lib.hid (HO13.out.below hb1316 (Nat.le_refl _))
              have HN16 := Lib.hid (own_below ho14 (low_trans hb15 hb16))
              have HG16 := Lib.hid (own_below ho15 hb16)
              have HA16 := Lib.hid ho16
              have HB16 := Lib.hid (stepAny HB13.out hb1316)
              clear hG hAU hAK ho14 hb14 ho15 hb15 hb1315 ho16 hb16 hb1316
              have HHG : Hid (∀ W, Below w16.heap.size w16 W → Calls Try.prog 30 #[.slice a15 12288 k15] W fun e w' => e = .returned (.string ⟨(Jr.homeOf G).toArray⟩) ∧ Below W.heap.size W w') := fun W hW => rhomestr_w (own_sl HG16.out hW) HGL.out
              obtain ⟨⟨sq, ll, je⟩, hrn⟩ : ∃ x, Jr.read AK = x := ⟨_, rfl⟩
              have HRN := Lib.hid hrn
              have HEQ : Hid (kk = L → G = AK ∧ sq = s0 + (k : Int) + 1 ∧ je = 0) := fun h => by
                obtain ⟨e1, e2⟩ := HFIN.out h
                rw [e1, hrn] at e2
                injection e2 with e3 e4
                injection e4 with e5 e6
                exact ⟨e1, e3, e6⟩
              clear hrn
              by_cases hc : kk < N + 1
              · have hc' : (kk : Int) < ((N : Int) + 1) := by omega
                have hhd : Jr.homeOf G = Jr.homeOf D := by have h := HHM.out; rw [HNN.out, if_pos hc] at h; exact h
                have HHW : Hid (∀ W, Below w16.heap.size w16 W → Calls Try.prog 30 #[.slice ad 12288 cd] W fun e w' => e = .returned (.string ⟨(Jr.homeOf G).toArray⟩) ∧ Below W.heap.size W w') := fun W hW => by rw [hhd]; exact rhomestr_w (HD16.out.below hW (Nat.le_refl _)) HDL.out
                clear hhd
                go_upto_region 31 with (first
                  | (go_at_call 30; (with_reducible refine (HHG.out _ (low_refl _)).mono ?_); rintro e w18 ⟨rfl, hb18⟩)
                  | (go_at_call 30; (with_reducible refine (HHW.out _ hb18).mono ?_); rintro e w19 ⟨rfl, hb19⟩; have hb1619 := stepAny hb18 hb19)
                  | (go_at_call 22; have hx := (jread_w (own_sl HN16.out hb1619)).mono (fun _ _ h => h.at HRN.out); (with_reducible refine hx.mono ?_); clear hx; rintro e w20 ⟨a20, k20, rfl, -, hb20⟩))
                have hb1620 := stepAny hb1619 hb20
                have HBE := Lib.hid (stepAny HB16.out hb1620)
                have HSE := Lib.hid (own_sl HG16.out hb1620)
                have hcn := conv_sl (own_sl HN16.out hb1620)
                have hcg := conv_sl (own_sl HG16.out hb1620)
                obtain ⟨y0, y1, y2⟩ := HC.out w20 HBE.out
                clear hb18 hb19 hb1619 hb20
                by_cases hkL : kk = L
                · omega
                · have hkL' : ¬ (kk : Int) = (L : Int) := by omega
                  go_wp2_with fail
                  go_roundw
                  case rel => exact ⟨k + 1, _, _, G, rfl, by go_num, by omega, HSE.out, HGL.out, fun h => by have h2 := (HFIN.out (HNX.out h)).2; rw [h2]; congr 1; push_cast; omega, HBE.out⟩
                  case measure => simp [intOf]; omega
              · have hc' : ¬ (kk : Int) < ((N : Int) + 1) := by omega
                have hhd : Jr.homeOf G = Jr.homeOf AU := by have h := HHM.out; rw [HNN.out, if_neg hc] at h; exact h
                have HHW : Hid (∀ W, Below w16.heap.size w16 W → Calls Try.prog 30 #[.slice a16 12288 k16] W fun e w' => e = .returned (.string ⟨(Jr.homeOf G).toArray⟩) ∧ Below W.heap.size W w') := fun W hW => by rw [hhd]; exact rhomestr_w (own_sl HA16.out hW) HAUL.out
                clear hhd
                go_upto_region 31 with (first
                  | (go_at_call 30; (with_reducible refine (HHG.out _ (low_refl _)).mono ?_); rintro e w18 ⟨rfl, hb18⟩)
                  | (go_at_call 30; (with_reducible refine (HHW.out _ hb18).mono ?_); rintro e w19 ⟨rfl, hb19⟩; have hb1619 := stepAny hb18 hb19)
                  | (go_at_call 22; have hx := (jread_w (own_sl HN16.out hb1619)).mono (fun _ _ h => h.at HRN.out); (with_reducible refine hx.mono ?_); clear hx; rintro e w20 ⟨a20, k20, rfl, -, hb20⟩))
                have hb1620 := stepAny hb1619 hb20
                have HBE := Lib.hid (stepAny HB16.out hb1620)
                have HSE := Lib.hid (own_sl HG16.out hb1620)
                have hcn := conv_sl (own_sl HN16.out hb1620)
                have hcg := conv_sl (own_sl HG16.out hb1620)
                obtain ⟨y0, y1, y2⟩ := HC.out w20 HBE.out
                clear hb18 hb19 hb1619 hb20
                by_cases hkL : kk = L
                · skip
                  obtain ⟨rfl, rfl, rfl⟩ := HEQ.out hkL
                  subst hkL
                  have i1 : IntKind.i64.wrap s0 = s0 := IntWalk.i64_in _ (by omega)
                  go_wp2_with fail
                  go_roundw
                  case rel => exact ⟨k + 1, _, _, G, rfl, by go_num, by omega, HSE.out, HGL.out, fun h => by have h2 := (HFIN.out (HNX.out h)).2; rw [h2]; congr 1; push_cast; omega, HBE.out⟩
                  case measure => simp [intOf]; omega
                · have hkL' : ¬ (kk : Int) = (L : Int) := by omega
                  go_wp2_with fail
                  go_roundw
                  case rel => exact ⟨k + 1, _, _, G, rfl, by go_num, by omega, HSE.out, HGL.out, fun h => by have h2 := (HFIN.out (HNX.out h)).2; rw [h2]; congr 1; push_cast; omega, HBE.out⟩
                  case measure => simp [intOf]; omega
            · have hl1' : ¬ (k : Int) = (M : Int) - 1 := by omega
              clear hlast
              subst hkL
              go_upto_region 21 with fail
              clear hl1'
              go_upto_region 24 with (first
                | (go_at_call 23; have hx := (japply_w HO13.out HTK.out (by rw [List.length_take]; omega)).mono (fun _ _ h => h.at HAPK.out); (with_reducible refine hx.mono ?_); clear hx; rintro e w14 ⟨a14, k14, rfl, ho14, hb14⟩)
                | (go_at_call 28; have hx := (jrecover_w (Sl.ofOwn ho14)).mono (fun _ _ h => h.at HREC.out); (with_reducible refine hx.mono ?_); clear hx; rintro e w15 ⟨a15, k15, rfl, ho15, hb15⟩; have hb1315 := low_trans hb14 hb15)
                | (go_at_call 23; have hx := (japply_w (HO13.out.below hb1315 (Nat.le_refl _)) (HW13.out.below hb1315 (Nat.le_refl _)) (by omega)).mono (fun _ _ h => h.at HAU.out); (with_reducible refine hx.mono ?_); clear hx; rintro e w16 ⟨a16, k16, rfl, ho16, hb16⟩; have hb1316 := low_trans hb1315 hb16))
              have hG := HGL.out
              have hAU := HAUL.out
              have hAK := HAPL.out
              rw [hG] at ho15 ⊢
              rw [hAU] at ho16 ⊢
              rw [hAK] at ho14 ⊢
              have HD16 := Lib.hid (HO13.out.below hb1316 (Nat.le_refl _))
              have HN16 := Lib.hid (own_below ho14 (low_trans hb15 hb16))
              have HG16 := Lib.hid (own_below ho15 hb16)
              have HA16 := Lib.hid ho16
              have HB16 := Lib.hid (stepAny HB13.out hb1316)
              clear hG hAU hAK ho14 hb14 ho15 hb15 hb1315 ho16 hb16 hb1316
              have HHG : Hid (∀ W, Below w16.heap.size w16 W → Calls Try.prog 30 #[.slice a15 12288 k15] W fun e w' => e = .returned (.string ⟨(Jr.homeOf G).toArray⟩) ∧ Below W.heap.size W w') := fun W hW => rhomestr_w (own_sl HG16.out hW) HGL.out
              obtain ⟨⟨sq, ll, je⟩, hrn⟩ : ∃ x, Jr.read AK = x := ⟨_, rfl⟩
              have HRN := Lib.hid hrn
              have HEQ : Hid (True → G = AK ∧ sq = s0 + (k : Int) + 1 ∧ je = 0) := fun _ => by
                obtain ⟨e1, e2⟩ := HFIN.out trivial
                rw [e1, hrn] at e2
                injection e2 with e3 e4
                injection e4 with e5 e6
                exact ⟨e1, e3, e6⟩
              clear hrn
              by_cases hc : kk < N + 1
              · have hc' : (kk : Int) < ((N : Int) + 1) := by omega
                have hhd : Jr.homeOf G = Jr.homeOf D := by have h := HHM.out; rw [HNN.out, if_pos hc] at h; exact h
                have HHW : Hid (∀ W, Below w16.heap.size w16 W → Calls Try.prog 30 #[.slice ad 12288 cd] W fun e w' => e = .returned (.string ⟨(Jr.homeOf G).toArray⟩) ∧ Below W.heap.size W w') := fun W hW => by rw [hhd]; exact rhomestr_w (HD16.out.below hW (Nat.le_refl _)) HDL.out
                clear hhd
                go_upto_region 31 with (first
                  | (go_at_call 30; (with_reducible refine (HHG.out _ (low_refl _)).mono ?_); rintro e w18 ⟨rfl, hb18⟩)
                  | (go_at_call 30; (with_reducible refine (HHW.out _ hb18).mono ?_); rintro e w19 ⟨rfl, hb19⟩; have hb1619 := stepAny hb18 hb19)
                  | (go_at_call 22; have hx := (jread_w (own_sl HN16.out hb1619)).mono (fun _ _ h => h.at HRN.out); (with_reducible refine hx.mono ?_); clear hx; rintro e w20 ⟨a20, k20, rfl, -, hb20⟩))
                have hb1620 := stepAny hb1619 hb20
                have HBE := Lib.hid (stepAny HB16.out hb1620)
                have HSE := Lib.hid (own_sl HG16.out hb1620)
                have hcn := conv_sl (own_sl HN16.out hb1620)
                have hcg := conv_sl (own_sl HG16.out hb1620)
                obtain ⟨y0, y1, y2⟩ := HC.out w20 HBE.out
                clear hb18 hb19 hb1619 hb20
                omega
              · have hc' : ¬ (kk : Int) < ((N : Int) + 1) := by omega
                have hhd : Jr.homeOf G = Jr.homeOf AU := by have h := HHM.out; rw [HNN.out, if_neg hc] at h; exact h
                have HHW : Hid (∀ W, Below w16.heap.size w16 W → Calls Try.prog 30 #[.slice a16 12288 k16] W fun e w' => e = .returned (.string ⟨(Jr.homeOf G).toArray⟩) ∧ Below W.heap.size W w') := fun W hW => by rw [hhd]; exact rhomestr_w (own_sl HA16.out hW) HAUL.out
                clear hhd
                go_upto_region 31 with (first
                  | (go_at_call 30; (with_reducible refine (HHG.out _ (low_refl _)).mono ?_); rintro e w18 ⟨rfl, hb18⟩)
                  | (go_at_call 30; (with_reducible refine (HHW.out _ hb18).mono ?_); rintro e w19 ⟨rfl, hb19⟩; have hb1619 := stepAny hb18 hb19)
                  | (go_at_call 22; have hx := (jread_w (own_sl HN16.out hb1619)).mono (fun _ _ h => h.at HRN.out); (with_reducible refine hx.mono ?_); clear hx; rintro e w20 ⟨a20, k20, rfl, -, hb20⟩))
                have hb1620 := stepAny hb1619 hb20
                have HBE := Lib.hid (stepAny HB16.out hb1620)
                have HSE := Lib.hid (own_sl HG16.out hb1620)
                have hcn := conv_sl (own_sl HN16.out hb1620)
                have hcg := conv_sl (own_sl HG16.out hb1620)
                obtain ⟨y0, y1, y2⟩ := HC.out w20 HBE.out
                clear hb18 hb19 hb1619 hb20
                obtain ⟨rfl, rfl, rfl⟩ := HEQ.out trivial
                have i1 : IntKind.i64.wrap s0 = s0 := IntWalk.i64_in _ (by omega)
                go_wp2_with fail
                go_roundw
                case rel => exact ⟨k + 1, _, _, G, rfl, by go_num, by omega, HSE.out, HGL.out, fun h => by have h2 := (HFIN.out (HNX.out h)).2; rw [h2]; congr 1; push_cast; omega, HBE.out⟩
                case measure => simp [intOf]; omega
      · obtain rfl : k = M := by omega
        go_wp2_with fail
        go_ret
        exact ⟨rfl, stepAny HLOW6.out HLO.out⟩
end Go.Proofs.Ytcbgablnbgpjdaa
