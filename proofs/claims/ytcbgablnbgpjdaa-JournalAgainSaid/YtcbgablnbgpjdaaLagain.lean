/-
  The walk of the law JournalAgain (printed by gen/mk36law.py).
-/
import Derived.Test.YtcbgablnbgpjdaaArgs
import Derived.Test.YtcbgablnbgpjdaaJc
import Derived.Test.YtcbgablnbgpjdaaLw
namespace Go.Proofs.Ytcbgablnbgpjdaa
open Go.RowKit

set_option maxRecDepth 100000 in
set_option maxHeartbeats 8000000 in
theorem lagain_w {v0 v1 : Value} {w : World} (o0 : IsSp w v0) (o1 : IsU8 w v1) : Calls Try.prog 9 #[v0, v1] w fun e w' => e = .returned (.bool true) ∧ Below w.heap.size w w' := by
  obtain ⟨⟨bl, seq, lg⟩, u1, u2, rfl, hw1, hw2, hq0, hq1⟩ := o0
  obtain ⟨kb, ekb⟩ := o1
  replace ekb : v1 = .int .u8 (kb.toNat : Int) := ekb
  subst ekb
  simp only at hw1 hw2 hq0 hq1
  obtain ⟨a1, c1, rfl⟩ := hw1.slice
  obtain ⟨a2, c2, rfl⟩ := hw2.slice
  obtain ⟨W1, hW1⟩ : ∃ W1, W1 = w.alloc (.cells #[.slice a1 bl.length c1, .int .u32 seq, .slice a2 lg.length c2] 25 (0, 0)) := ⟨_, rfl⟩
  have hs1 : W1.heap.size = w.heap.size + 1 := by rw [hW1]; simp
  have hbx : Bk W1 w.heap.size 25 [.slice a1 bl.length c1, .int .u32 seq, .slice a2 lg.length c2] := by rw [hW1]; exact Bk.new w _ [_, _, _]
  have hlow1 : Below w.heap.size w W1 := by rw [hW1]; exact low_alloc _ _
  have HLW : Hid (∀ W, Below W1.heap.size W1 W → Below w.heap.size w W) := fun W hW => stepAny hlow1 hW
  have HFW : Hid (∀ W, Below W1.heap.size W1 W → Calls Try.prog 11 #[.agg #[.slice a1 bl.length c1, .int .u32 seq, .slice a2 lg.length c2]] W fun e w' => e = .returned (.bool (Jr.few (bl, seq, lg))) ∧ Below W.heap.size W w') := fun W hW =>
    few_w ⟨_, _, rfl, hw1.below (HLW.out W hW) (Nat.le_refl _), hw2.below (HLW.out W hW) (Nat.le_refl _), hq0, hq1⟩
  have HFS : Hid (Jr.few (bl, seq, lg) = true → (∀ w ∈ bl, w.2.length ≤ 300) ∧ bl.length ≤ 20 ∧ (∀ w ∈ lg, w.2.length ≤ 300) ∧ lg.length ≤ 20) := fun hf => by
    unfold Jr.few Jr.short at hf
    simp only [Bool.and_eq_true, decide_eq_true_eq] at hf
    exact ⟨hf.1.1, hf.1.2, hf.2.1, hf.2.2⟩
  have HAW := Lib.hid (fun W => awake_w W)
  have HQ : Hid (∀ W, Below W1.heap.size W1 W → W.cell? ⟨w.heap.size, 0, none⟩ = some (.slice a1 bl.length c1) ∧ W.cell? ⟨w.heap.size, 1, none⟩ = some (.int .u32 seq) ∧ W.cell? ⟨w.heap.size, 2, none⟩ = some (.slice a2 lg.length c2)) := fun W hW => by
    have h := hbx.below hW (by omega)
    exact ⟨h.cell 0, h.cell 1, h.cell 2⟩
  have HU1 : Hid (∀ W, Below W1.heap.size W1 W → Wp W (.slice a1 bl.length c1) bl) := fun W hW => hw1.below (HLW.out W hW) (Nat.le_refl _)
  have HU2 : Hid (∀ W, Below W1.heap.size W1 W → Wp W (.slice a2 lg.length c2) lg) := fun W hW => hw2.below (HLW.out W hW) (Nat.le_refl _)
  have HBX := Lib.hid hbx
  have HU1b : Hid (∀ W, Below w.heap.size w W → Wp W (.slice a1 bl.length c1) bl) := fun W hW => hw1.below hW (Nat.le_refl _)
  have HL1 : Hid (∀ p : Addr, w.heap.size ≤ p.block → ∀ W v, Below w.heap.size w W → Below w.heap.size w (W.setCell p v)) := fun p hp W v hW => hW.setCell hp v
  have HLO := Lib.hid hlow1
  have HW1 := Lib.hid hW1
  clear hw1 hw2 hbx hlow1 hW1
  go_enter Try.func9, Try.ntmps9
  go_upto_region 1 with fail
  rw [← HW1.out]
  go_upto_region 3 with (go_at_call 10; (with_reducible refine (HAW.out _).mono ?_); rintro e w2 ⟨rfl, hb2⟩)
  obtain ⟨y0, y1, y2⟩ := HQ.out w2 hb2
  have HB2 := Lib.hid hb2
  clear hb2
  cases hf : Jr.few (bl, seq, lg) with
  | false =>
    rw [hf] at HFW
    clear hf
    go_wp2_with (go_at_call 11; (with_reducible refine (HFW.out _ HB2.out).mono ?_); rintro e w3 ⟨rfl, hb3⟩)
    go_ret
    exact ⟨rfl, HLW.out _ (stepAny HB2.out hb3)⟩
  | true =>
    have hfs := HFS.out hf
    rw [hf] at HFW
    have HFL : Hid (∀ i (h : i < lg.length), lg[i].2.length ≤ 1000) := fun i h => by have := hfs.2.2.1 _ (List.getElem_mem h); omega
    have hl1 := hfs.2.1
    clear hf hfs
    go_upto_region 5 with (go_at_call 11; (with_reducible refine (HFW.out _ HB2.out).mono ?_); rintro e w3 ⟨rfl, hb3⟩)
    have hb13 := stepAny HB2.out hb3
    have hs13 := hb13.size
    clear y0 y1 y2
    obtain ⟨y0, y1, y2⟩ := HQ.out w3 hb13
    have z2 := ((HBX.out.below hb13 (by omega)).frozen 2)
    have HB3 := Lib.hid hb13
    have HFU := Lib.hid (rfull_w (L := [w.heap.size]) (by simp; omega) (HU2.out w3 hb13) HFL.out)
    have hfl20 : (Jr.full lg).length ≤ 20 := by rw [Jr.full_len]; exact Nat.min_le_left _ _
    clear hb3 hb13
    go_upto_region 6 with (go_at_call 21; (with_reducible refine HFU.out.mono ?_); rintro e w5 ⟨v5, rfl, hl5, hb5⟩; obtain ⟨a5, k5, rfl, -, -⟩ := hl5.slice; obtain ⟨x0, x1, x2⟩ := HQ.out w5 (stepAny HB3.out hb5); have z52 := ((HBX.out.below (stepAny HB3.out hb5) (by omega)).frozen 2))
    have hb15 := stepAny HB3.out hb5
    have hs15 := hb15.size
    have hk5 : Bk (w5.setCell ⟨w.heap.size, 2, none⟩ (.slice a5 (Jr.full lg).length k5)) w.heap.size 25 [.slice a1 bl.length c1, .int .u32 seq, .slice a5 (Jr.full lg).length k5] := (HBX.out.below hb15 (by omega)).set 2 _
    have hl5' : Wp (w5.setCell ⟨w.heap.size, 2, none⟩ (.slice a5 (Jr.full lg).length k5)) (.slice a5 (Jr.full lg).length k5) (Jr.full lg) := (hl5.set (by simp) (fun e => by have := (hl5.lt _ e).1; omega) 2 _).wp
    have hu5 : Wp (w5.setCell ⟨w.heap.size, 2, none⟩ (.slice a5 (Jr.full lg).length k5)) (.slice a1 bl.length c1) bl := HU1b.out _ (HL1.out ⟨w.heap.size, 2, none⟩ (Nat.le_refl _) w5 _ (HLW.out _ hb15))
    have hlow5 : Below w.heap.size w (w5.setCell ⟨w.heap.size, 2, none⟩ (.slice a5 (Jr.full lg).length k5)) := HL1.out ⟨w.heap.size, 2, none⟩ (Nat.le_refl _) w5 _ (HLW.out _ hb15)
    clear y0 y1 y2 x0 x1 x2 z2 z52 hl5 hb5 hb15
    generalize w5.setCell ⟨w.heap.size, 2, none⟩ (.slice a5 (Jr.full lg).length k5) = W5 at *
    have HQ5 : Hid (∀ W, Below W5.heap.size W5 W → W.cell? ⟨w.heap.size, 0, none⟩ = some (.slice a1 bl.length c1) ∧ W.cell? ⟨w.heap.size, 1, none⟩ = some (.int .u32 seq) ∧ W.cell? ⟨w.heap.size, 2, none⟩ = some (.slice a5 (Jr.full lg).length k5)) := fun W hW => by
      have h := hk5.below hW hk5.lt
      exact ⟨h.cell 0, h.cell 1, h.cell 2⟩
    have HDW : Hid (∀ W, Below W5.heap.size W5 W → Calls Try.prog 13 #[.agg #[.slice a1 bl.length c1, .int .u32 seq, .slice a5 (Jr.full lg).length k5]] W (RetDisk (bl, seq, Jr.full lg) W)) := fun W hW => rdisk_w (hu5.below hW (Nat.le_refl _)) (hl5'.below hW (Nat.le_refl _)) hq0 hq1 (by omega) (by omega)
    unfold RetDisk at HDW
    have HUF : Hid (∀ W, Below W5.heap.size W5 W → Wp W (.slice a5 (Jr.full lg).length k5) (Jr.full lg)) := fun W hW => hl5'.below hW (Nat.le_refl _)
    have HDL := Lib.hid (Jr.disk_length (bl, seq, Jr.full lg))
    have HRD := Lib.hid (Jr.read_disk (bl, seq, Jr.full lg) hq0 hq1)
    have HLOG : Hid (Jr.logOf (bl, seq, Jr.full lg) = if Jr.valid (Jr.full lg) = true then Jr.full lg else []) := rfl
    simp only at HRD
    have HLOW5 := Lib.hid hlow5
    generalize Jr.disk (bl, seq, Jr.full lg) = D at *
    generalize Jr.logOf (bl, seq, Jr.full lg) = lo at *
    clear hk5 hl5' hu5 hlow5
    obtain ⟨y0, y1, y2⟩ := HQ5.out W5 (low_refl _)
    obtain ⟨G, hrec, hgl, hrec2, hag⟩ := Jr.again HRD.out
    obtain ⟨q, hq⟩ : ∃ q, decide (lo ≠ []) = q := ⟨_, rfl⟩
    rw [hq] at hrec
    have hlo11 : lo.length ≤ 11 := by
      have h := Jr.read_len D
      rw [HRD.out] at h
      exact h
    have hqc : (q = false ∧ lo.length < 1) ∨ (q = true ∧ 0 < lo.length) := by
      by_cases e : lo = []
      · subst e; left; refine ⟨?_, by simp⟩; rw [← hq]; simp
      · right
        refine ⟨by rw [← hq]; simp [e], ?_⟩
        cases lo with
        | nil => exact absurd rfl e
        | cons x l => simp
    have HREC := Lib.hid hrec
    have HREC2 := Lib.hid hrec2
    have HGL := Lib.hid hgl
    have HAG := Lib.hid hag
    obtain ⟨A, hA⟩ : ∃ A, Jr.homes seq lo = A := ⟨_, rfl⟩
    rw [hA] at HAG
    have HA : Hid (lo ++ [(1, Jr.idle seq)] = A) := hA
    obtain ⟨N, hN⟩ : ∃ N, lo.length = N := ⟨_, rfl⟩
    have hal : A.length = N + 1 := by rw [← hA]; unfold Jr.homes; simp [hN]
    have HWF : Hid (∀ x ∈ A, Jr.fits x = true) := by rw [← hA]; exact Jr.homes_fit (Jr.read_ok HRD.out).2.2.2.2 seq
    obtain ⟨kk, hkk⟩ : ∃ kk, kb.toNat % (N + 1 + 1) = kk := ⟨_, rfl⟩
    have hkl : kk ≤ N + 1 := by have := Nat.mod_lt kb.toNat (show 0 < N + 1 + 1 by omega); omega
    have hki : ((kb.toNat : Int) % (((N + 1 : Nat) : Int) + 1)) = (kk : Int) := by rw [← hkk]; simp
    have hki2 : ((kb.toNat : Int) % ((N : Int) + 1 + 1)) = (kk : Int) := by rw [← hkk]; simp
    obtain ⟨q9, hbr⟩ := HAG.out kk (by omega)
    have HBR := Lib.hid hbr
    have HAPK : Hid (Jr.apply D (A.take kk) = (Jr.app D (A.take kk), 0)) := Jr.apply_all HDL.out fun x hx => HWF.out x (List.mem_of_mem_take hx)
    have HAPL : Hid ((Jr.app D (A.take kk)).length = 12288) := Jr.app_length HDL.out fun x hx => HWF.out x (List.mem_of_mem_take hx)
    have HEM : Hid (∀ W, Calls Try.prog 25 #[.int .i64 seq] W fun e w' => ∃ a k, e = .returned (.tuple #[.slice a 128 k, .int .i64 0]) ∧ w'.ownsRow W.heap.size 5 1 (.slice a 128 k) 128 ((Jr.idle seq).map eb) ∧ Below W.heap.size W w') := fun W => (empty_w seq (by omega) (by omega) W).mono fun _ _ ⟨v, h1, h2, h3⟩ => by
      have e : Jr.empty seq = (Jr.idle seq, 0) := if_neg (by omega)
      rw [e] at h1 h2
      rw [show (Jr.idle seq).length = 128 from Jr.mk_len' _ _ _ _] at h2
      obtain ⟨a, k, rfl⟩ := own_slice h2
      exact ⟨a, k, h1, h2, h3⟩
    have HNN := Lib.hid hN
    have HAL := Lib.hid hal
    have hkb := kb.toNat_lt
    rw [hN] at hqc hlo11
    have hnd : ¬ ((N : Int) + 1 + 1 = 0) := by omega
    obtain ⟨iJ, hiJ, hzJ0, hzJ1, hzJ2⟩ := info_parts Try.infoJ
    clear hrec hrec2 hgl hag hA hN hal hq hkk hbr
    generalize Jr.app D (A.take kk) = AK at *
    generalize Jr.idle seq = I at *
    rcases hqc with ⟨rfl, hn⟩ | ⟨rfl, hn⟩
    all_goals
      go_upto_if 58 with (first
        | (go_at_call 13; (with_reducible refine (HDW.out _ (low_refl _)).mono ?_); rintro e w7 ⟨g, cg, rfl, ho7, hb7⟩)
        | (go_at_call 22; have hx := (jread_w (Sl.ofOwn ho7)).mono (fun _ _ h => h.at HRD.out); (with_reducible refine hx.mono ?_); clear hx; rintro e w8 ⟨a8, k8, rfl, hl8, hb8⟩; rw [HNN.out] at hl8 ⊢)
        | (go_at_call 28; have hx := (jrecover_w (own_sl ho7 hb8)).mono (fun _ _ h => h.at HREC.out); (with_reducible refine hx.mono ?_); clear hx; rintro e w9 ⟨a9, k9, rfl, ho9, hb9⟩; rw [HGL.out] at ho9 ⊢))
      have hb79 := low_trans hb8 hb9
      have HO7 := Lib.hid (own_below ho7 hb79)
      have HL8 := Lib.hid (hl8.below hb9)
      have HO9 := Lib.hid ho9
      have HB9 := Lib.hid (stepAny HLOW5.out (low_trans hb7 hb79))
      clear ho7 hb7 hl8 hb8 ho9 hb9 hb79 y0 y1 y2
      go_upto_if 76 with (first
        | (go_at_call 28; have hx := (jrecover_w (own_sl HO9.out (low_refl _))).mono (fun _ _ h => h.at HREC2.out); (with_reducible refine hx.mono ?_); clear hx; rintro e w10 ⟨a10, k10, rfl, ho10, hb10⟩; rw [HGL.out] at ho10; rw [HGL.out]; have hc1 := conv_sl (Sl.ofOwn ho10); have hc2 := conv_sl (own_sl HO9.out hb10)))
      have HO10 := Lib.hid (own_below HO9.out hb10)
      have HD10 := Lib.hid (own_below HO7.out hb10)
      have HL10 := Lib.hid ((HL8.out.below hb10).wp)
      have HB10 := Lib.hid (stepAny HB9.out hb10)
      clear ho10 hb10
      go_upto_region 16 with (first
        | (go_at_call 25; (with_reducible refine (HEM.out _).mono ?_); rintro e w11 ⟨a11, k11, rfl, ho11, hb11⟩)
        | (at_builtin; refine wpList_append_ws rfl (.tmp 82) (.tmp 83) 31 rfl w11.heap.size 63 iJ _ Try.underlying31 hiJ hzJ0 hzJ1 hzJ2 rfl _ [] rfl wo_new _ lo rfl w10 HL10.out (hb11.trans ((low_alloc _ _).mono hb11.size)) hb11.size (by rw [HNN.out]; simp; omega) (by simp) ?_; intro v12 w12 hwo12 hs12 hb12; rw [List.nil_append] at hwo12; have hb1112 := (low_alloc w11 _).trans hb12)
        | (at_builtin; refine wpList_append_wo rfl (.tmp 84) (.tmp 87) 31 rfl w11.heap.size 63 iJ _ Try.underlying31 hiJ hzJ0 hzJ1 hzJ2 rfl [] _ lo rfl (hwo12.below (low_alloc _ _)) (by rw [HNN.out]; omega) w12.heap.size 1 (.slice a11 128 k11) I rfl (heap_alloc_new _ _) ((own_below ho11 hb1112 |> fun h => own_av8 h (fun b hb => (hwo12.lt b hb).1) (own_hi ho11)).alloc _) (by have := hb1112.size; simp; omega) ?_; intro v13 w13 hwo13 hs13 hb13))
      rw [HA.out] at hwo13
      obtain ⟨a13, c13, hv13, hc13, -⟩ := hwo13.slice
      rw [HAL.out] at hv13 hc13
      subst hv13
      have hb1013 : Below w10.heap.size w10 w13 := (hb11.trans (hb1112.mono hb11.size)).alloc (by have := hb11.size; have := hb1112.size; omega) _ |>.trans (hb13.mono hb11.size)
      have HO13 := Lib.hid (own_below HO10.out hb1013)
      have HD13 := Lib.hid (own_below HD10.out hb1013)
      have HB13 := Lib.hid (stepAny HB10.out hb1013)
      have HTK := Lib.hid (Wp.takeN (v := .slice none 0 0) hwo13.wp kk hkl)
      clear ho11 hb11 hwo12 hs12 hb12 hwo13 hs13 hb13 hb1013 hb1112 hc1 hc2
      have f1 : (0 : Int) ≤ (kk : Int) := by omega
      have f2 : (kk : Int) ≤ (c13 : Int) := by omega
      go_wp2_with (first
        | (go_at_call 23; have hx := (japply_w (own_sl HD13.out (low_refl _)) HTK.out (by rw [List.length_take]; omega)).mono (fun _ _ h => h.at HAPK.out); (with_reducible refine hx.mono ?_); clear hx; rintro e w14 ⟨a14, k14, rfl, ho14, hb14⟩; rw [HAPL.out] at ho14 ⊢)
        | (go_at_call 28; have hx := (jrecover_w (Sl.ofOwn ho14)).mono (fun _ _ h => h.at HBR.out); (with_reducible refine hx.mono ?_); clear hx; rintro e w15 ⟨a15, k15, rfl, ho15, hb15⟩; rw [HGL.out] at ho15; rw [HGL.out]; have hb1315 := low_trans hb14 hb15; have hc1 := conv_sl (Sl.ofOwn ho15); have hc2 := conv_sl (own_sl HO13.out hb1315)))
      go_ret
      exact ⟨rfl, stepAny HB13.out hb1315⟩
end Go.Proofs.Ytcbgablnbgpjdaa
