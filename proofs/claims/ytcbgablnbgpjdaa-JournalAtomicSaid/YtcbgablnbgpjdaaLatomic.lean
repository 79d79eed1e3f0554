/-
  The walk of the law JournalAtomic (printed by gen/mk36law.py).
-/
import Derived.Test.YtcbgablnbgpjdaaArgs
import Derived.Test.YtcbgablnbgpjdaaJc
import Derived.Test.YtcbgablnbgpjdaaLw
namespace Go.Proofs.Ytcbgablnbgpjdaa
open Go.RowKit

set_option maxRecDepth 100000 in
set_option maxHeartbeats 8000000 in
theorem latomic_w {v0 v1 v2 : Value} {w : World} (o0 : IsSp w v0) (o1 : IsWrs w v1) (o2 : IsU8 w v2) : Calls Try.prog 7 #[v0, v1, v2] w fun e w' => e = .returned (.bool true) ∧ Below w.heap.size w w' := by
  obtain ⟨⟨bl, seq, lg⟩, u1, u2, rfl, hw1, hw2, hq0, hq1⟩ := o0
  obtain ⟨ls, hw3⟩ := o1
  obtain ⟨kb, ekb⟩ := o2
  replace ekb : v2 = .int .u8 (kb.toNat : Int) := ekb
  subst ekb
  simp only at hw1 hw2 hq0 hq1
  obtain ⟨a1, c1, rfl⟩ := hw1.slice
  obtain ⟨a2, c2, rfl⟩ := hw2.slice
  obtain ⟨W1, hW1⟩ : ∃ W1, W1 = w.alloc (.cells #[.slice a1 bl.length c1, .int .u32 seq, .slice a2 lg.length c2] 25 (0, 0)) := ⟨_, rfl⟩
  have hs1 : W1.heap.size = w.heap.size + 1 := by rw [hW1]; simp
  have hbx : Bk W1 w.heap.size 25 [.slice a1 bl.length c1, .int .u32 seq, .slice a2 lg.length c2] := by rw [hW1]; exact Bk.new w _ [_, _, _]
  have hlow1 : Below w.heap.size w W1 := by rw [hW1]; exact low_alloc _ _
  have HLW : Hid (∀ W, Below W1.heap.size W1 W → Below w.heap.size w W) := fun W hW => stepAny hlow1 hW
  have HFW : Hid (∀ W, Below W1.heap.size W1 W → Calls Try.prog 11 #[.agg #[.slice a1 bl.length c1, .int .u32 seq, .slice a2 lg.length c2]] W fun e w' => e = .returned (.bool (Jr.few (bl, seq, lg))) ∧ Below W.heap.size W w') := fun W hW =>
    few_w ⟨_, _, rfl, hw1.below (HLW.out W hW) (Nat.le_refl _), hw2.below (HLW.out W hW) (Nat.le_refl _), hq0, hq1⟩
  have HFS : Hid (Jr.few (bl, seq, lg) = true → (∀ w ∈ bl, w.2.length ≤ 300) ∧ bl.length ≤ 20 ∧ (∀ w ∈ lg, w.2.length ≤ 300) ∧ lg.length ≤ 20) := fun hf => by
    unfold Jr.few Jr.short at hf
    simp only [Bool.and_eq_true, decide_eq_true_eq] at hf
    exact ⟨hf.1.1, hf.1.2, hf.2.1, hf.2.2⟩
  have HAW := Lib.hid (fun W => awake_w W)
  obtain ⟨a3, c3, rfl⟩ := hw3.slice
  have HSW : Hid (∀ W, Below W1.heap.size W1 W → Calls Try.prog 12 #[.slice a3 ls.length c3] W fun e w' => e = .returned (.bool (Jr.short ls)) ∧ Below W.heap.size W w') := fun W hW => (short_w (hw3.below (HLW.out W hW) (Nat.le_refl _))).mono fun _ _ h => ⟨h.1, h.2 ▸ low_refl W⟩
  have HSS : Hid (Jr.short ls = true → ls.length ≤ 20 ∧ ∀ i (h : i < ls.length), ls[i].2.length ≤ 1000) := fun hf => by
    unfold Jr.short at hf
    simp only [Bool.and_eq_true, decide_eq_true_eq] at hf
    exact ⟨hf.2, fun i h => by have := hf.1 _ (List.getElem_mem h); omega⟩
  have HU : Hid (∀ W, Below w.heap.size w W → Wp W (.slice a3 ls.length c3) ls) := fun W hW => hw3.below hW (Nat.le_refl _)
  have HU1 : Hid (∀ W, Below w.heap.size w W → Wp W (.slice a1 bl.length c1) bl) := fun W hW => hw1.below hW (Nat.le_refl _)
  have HQ : Hid (∀ W, Below W1.heap.size W1 W → W.cell? ⟨w.heap.size, 0, none⟩ = some (.slice a1 bl.length c1) ∧ W.cell? ⟨w.heap.size, 1, none⟩ = some (.int .u32 seq) ∧ W.cell? ⟨w.heap.size, 2, none⟩ = some (.slice a2 lg.length c2)) := fun W hW => by
    have h := hbx.below hW (by omega)
    exact ⟨h.cell 0, h.cell 1, h.cell 2⟩
  have HBX := Lib.hid hbx
  have HL1 : Hid (∀ p : Addr, w.heap.size ≤ p.block → ∀ W v, Below w.heap.size w W → Below w.heap.size w (W.setCell p v)) := fun p hp W v hW => hW.setCell hp v
  have HW1 := Lib.hid hW1
  clear hw1 hw2 hw3 hbx hlow1 hW1
  go_enter Try.func7, Try.ntmps7
  go_upto_region 1 with fail
  rw [← HW1.out]
  go_upto_region 3 with (go_at_call 10; (with_reducible refine (HAW.out _).mono ?_); rintro e w2 ⟨rfl, hb2⟩)
  obtain ⟨y0, y1, y2⟩ := HQ.out w2 hb2
  have HB2 := Lib.hid hb2
  clear hb2
  cases hf : Jr.few (bl, seq, lg) with
  | false =>
    rw [hf] at HFW
    clear hf
    go_wp2_with (go_at_call 11; (with_reducible refine (HFW.out _ HB2.out).mono ?_); rintro e w3 ⟨rfl, hb3⟩)
    go_ret
    exact ⟨rfl, HLW.out _ (stepAny HB2.out hb3)⟩
  | true =>
    have hl1 := (HFS.out hf).2.1
    rw [hf] at HFW
    clear hf
    cases hsh : Jr.short ls with
    | false =>
      rw [hsh] at HSW
      clear hsh
      go_wp2_with (first | (go_at_call 11; (with_reducible refine (HFW.out _ HB2.out).mono ?_); rintro e w3 ⟨rfl, hb3⟩) | (go_at_call 12; (with_reducible refine (HSW.out _ (stepAny HB2.out hb3)).mono ?_); rintro e w3' ⟨rfl, hb3'⟩))
      go_ret
      exact ⟨rfl, HLW.out _ (stepAny (stepAny HB2.out hb3) hb3')⟩
    | true =>
      obtain ⟨hl20, hl300⟩ := HSS.out hsh
      have HL3 := Lib.hid hl300
      rw [hsh] at HSW
      clear hsh hl300
      go_upto_region 5 with (first | (go_at_call 11; (with_reducible refine (HFW.out _ HB2.out).mono ?_); rintro e w3 ⟨rfl, hb3⟩) | (go_at_call 12; (with_reducible refine (HSW.out _ (stepAny HB2.out hb3)).mono ?_); rintro e w3' ⟨rfl, hb3'⟩))
      have hb13 := stepAny (stepAny HB2.out hb3) hb3'
      have hs13 := hb13.size
      clear y0 y1 y2
      obtain ⟨y0, y1, y2⟩ := HQ.out w3' hb13
      have z2 := ((HBX.out.below hb13 (by omega)).frozen 2)
      go_upto_region 6 with fail
      have hk5 : Bk (w3'.setCell ⟨w.heap.size, 2, none⟩ (.slice none 0 0)) w.heap.size 25 [.slice a1 bl.length c1, .int .u32 seq, .slice none 0 0] := (HBX.out.below hb13 (by omega)).set 2 _
      have hlow5 : Below w.heap.size w (w3'.setCell ⟨w.heap.size, 2, none⟩ (.slice none 0 0)) := HL1.out ⟨w.heap.size, 2, none⟩ (Nat.le_refl _) w3' _ (HLW.out _ hb13)
      clear y0 y1 y2 z2 hb3 hb3' hb13
      generalize w3'.setCell ⟨w.heap.size, 2, none⟩ (.slice none 0 0) = W5 at *
      have y0 : W5.cell? ⟨w.heap.size, 0, none⟩ = some (.slice a1 bl.length c1) := hk5.cell 0
      have y1 : W5.cell? ⟨w.heap.size, 1, none⟩ = some (.int .u32 seq) := hk5.cell 1
      have y2 : W5.cell? ⟨w.heap.size, 2, none⟩ = some (.slice none 0 0) := hk5.cell 2
      have HDW := Lib.hid (rdisk_w (HU1.out W5 hlow5) (Wp.nil (w := W5)) hq0 hq1 (by omega) (by simp))
      unfold RetDisk at HDW
      have HDL := Lib.hid (Jr.disk_length (bl, seq, []))
      have HRD : Hid (Jr.read (Jr.disk (bl, seq, [])) = (seq, [], 0)) := by
        have h := Jr.read_disk (bl, seq, []) hq0 hq1
        have e : Jr.logOf (bl, seq, []) = [] := by unfold Jr.logOf; split <;> rfl
        rw [e] at h
        exact h
      have HLOW5 := Lib.hid hlow5
      have HFU : Hid (∀ W, Below w.heap.size w W → Calls Try.prog 21 #[.slice a3 ls.length c3] W fun e w' => ∃ v', e = .returned v' ∧ Wo W.heap.size 66 [] w' v' (Jr.full ls) ∧ Below W.heap.size W w') := fun W hW => rfull_w (L := []) (by simp) (HU.out W hW) HL3.out
      have hful : (Jr.full ls).length ≤ 20 := by rw [Jr.full_len]; exact Nat.min_le_left _ _
      generalize Jr.disk (bl, seq, []) = D at *
      generalize Jr.full ls = U at *
      clear hk5 hlow5
      go_upto_region 7 with (first
        | (go_at_call 13; (with_reducible refine HDW.out.mono ?_); rintro e w7 ⟨g, cg, rfl, ho7, hb7⟩; have hb07 := stepAny HLOW5.out hb7)
        | (go_at_call 21; (with_reducible refine (HFU.out _ hb07).mono ?_); rintro e w8 ⟨v8, rfl, hl8, hb8⟩)
        | (go_at_call 15; have hx := own_w hl8.wp (by omega); (with_reducible refine hx.mono ?_); clear hx; rintro e w9 ⟨v9, rfl, hl9, hb9⟩))
      have HO9 := Lib.hid (own_below ho7 (low_trans hb8 hb9))
      have HW9 := Lib.hid hl9.wp
      have HB9 := Lib.hid (stepAny hb07 (low_trans hb8 hb9))
      clear ho7 hb7 hb07 hl8 hb8 hl9 hb9 y0 y1 y2
      obtain ⟨a9, c9, hv9⟩ := HW9.out.slice
      subst hv9
      by_cases hbad : Jr.valid U = false ∨ seq = 4294967295
      · obtain ⟨ce, hpl, hne⟩ : ∃ ce, Jr.plan D U = ([], [], ce) ∧ ce ≠ 0 := by
          rw [Jr.plan_at HRD.out]
          rw [if_neg (by simp)]
          by_cases hv : Jr.valid U = false
          · rw [if_pos hv]; exact ⟨1, rfl, by decide⟩
          · rw [if_neg hv, if_neg (by simp), if_pos (hbad.resolve_left hv)]; exact ⟨2, rfl, by decide⟩
        have HPL := Lib.hid hpl
        have hnq : (ce != 0) = true := by simp [hne]
        clear hpl hne hbad
        go_wp2_with (go_at_call 14; have hx := (jplan_w (own_sl HO9.out (low_refl _)) HW9.out (by omega)).mono (fun _ _ h => h.at HPL.out); (with_reducible refine hx.mono ?_); clear hx; rintro e w10 ⟨a10, k10, a11, k11, rfl, hp10, hp11, hb10⟩)
        go_ret
        exact ⟨rfl, stepAny HB9.out hb10⟩
      · have hval : Jr.valid U = true := by
          cases h : Jr.valid U
          · exact absurd (.inl h) hbad
          · rfl
        have hsq : seq + 1 < 4294967296 := by
          have : seq ≠ 4294967295 := fun e => hbad (.inr e)
          omega
        have hpl : Jr.plan D U = (Jr.logs U ++ [Jr.hdr D seq U], Jr.homes (seq + 1) U, 0) := by
          rw [Jr.plan_at HRD.out, if_neg (by simp), if_neg (by rw [hval]; simp), if_neg (by simp), if_neg (by omega)]
          rfl
        have HALL : Hid (Jr.logs U ++ [Jr.hdr D seq U] ++ Jr.homes (seq + 1) U = Jr.writes D seq U) := rfl
        have HPP : Hid ((Jr.logs U ++ [Jr.hdr D seq U]).length = U.length + 1) := by simp [Hid, Jr.logs_len]
        have HQQ : Hid ((Jr.homes (seq + 1) U).length = U.length + 1) := by simp [Hid, Jr.homes]
        have hu11 := (Jr.valid_all hval).2.2.2
        have HWF := Lib.hid (Jr.writes_fit D seq hval)
        have HWL := Lib.hid (Jr.writes_len D seq U)
        have HAT := Lib.hid (fun k hk => Jr.atomic HRD.out hsq hval k hk)
        have HAU := Lib.hid (Jr.apply_all HDL.out (Jr.valid_fit hval))
        have HAUL := Lib.hid (Jr.app_length HDL.out (Jr.valid_fit hval))
        have HPL := Lib.hid hpl
        clear hpl hbad hval hsq
        generalize Jr.logs U ++ [Jr.hdr D seq U] = P at *
        generalize Jr.homes (seq + 1) U = Q at *
        generalize Jr.writes D seq U = A at *
        have hpl0 : P.length = U.length + 1 := HPP.out
        have hql0 : Q.length = U.length + 1 := HQQ.out
        obtain ⟨N, hN⟩ : ∃ N, U.length = N := ⟨_, rfl⟩
        rw [hN] at hpl0 hql0 hu11
        obtain ⟨L, hal⟩ : ∃ L, A.length = L := ⟨_, rfl⟩
        have hLN : N + 1 + (N + 1) = L := by rw [← hal, HWL.out, hN]
        obtain ⟨kk, hkk⟩ : ∃ kk, kb.toNat % (L + 1) = kk := ⟨_, rfl⟩
        have hkl : kk ≤ L := by have := Nat.mod_lt kb.toNat (show 0 < L + 1 by omega); omega
        have hki : ((kb.toNat : Int) % ((L : Int) + 1)) = (kk : Int) := by rw [← hkk]; simp
        obtain ⟨G, n9, q9, hrec, hgl, hrg, hhome, -⟩ := HAT.out kk (by omega)
        have HREC := Lib.hid hrec
        have HGL := Lib.hid hgl
        have HRG := Lib.hid hrg
        have HAPK : Hid (Jr.apply D (A.take kk) = (Jr.app D (A.take kk), 0)) := Jr.apply_all HDL.out fun x hx => HWF.out x (List.mem_of_mem_take hx)
        have HAPL : Hid ((Jr.app D (A.take kk)).length = 12288) := Jr.app_length HDL.out fun x hx => HWF.out x (List.mem_of_mem_take hx)
        have HHM := Lib.hid hhome
        have HNN := Lib.hid hN
        have HAL := Lib.hid hal
        have HPP2 := Lib.hid hpl0
        have HQQ2 := Lib.hid hql0
        have hkb := kb.toNat_lt
        obtain ⟨iJ, hiJ, hzJ0, hzJ1, hzJ2⟩ := info_parts Try.infoJ
        clear hrec hgl hrg hhome hkk hN hal hpl0 hql0
        generalize Jr.app D (A.take kk) = AK at *
        generalize Jr.app D U = AU at *
        go_upto_region 11 with (first
          | (go_at_call 14; have hx := (jplan_w (own_sl HO9.out (low_refl _)) HW9.out (by omega)).mono (fun _ _ h => h.at HPL.out); (with_reducible refine hx.mono ?_); clear hx; rintro e w10 ⟨a10, k10, a11, k11, rfl, hp10, hp11, hb10⟩; rw [HPP2.out] at hp10 ⊢; rw [HQQ2.out] at hp11 ⊢)
          | (at_builtin; refine wpList_append_ws rfl (.tmp 56) (.tmp 57) 31 rfl w10.heap.size 63 iJ _ Try.underlying31 hiJ hzJ0 hzJ1 hzJ2 rfl _ [] rfl wo_new _ P rfl w10 hp10 (low_alloc _ _) (Nat.le_refl _) (by rw [HPP2.out]; simp; omega) (by simp) ?_; intro v12 w12 hwo12 hs12 hb12; rw [List.nil_append] at hwo12)
          | (at_builtin; refine wpList_append_ws rfl (.tmp 58) (.tmp 59) 31 rfl w10.heap.size 63 iJ _ Try.underlying31 hiJ hzJ0 hzJ1 hzJ2 rfl _ P rfl hwo12 _ Q rfl w10 hp11 ((low_alloc _ _).trans hb12) (Nat.le_refl _) (by rw [HPP2.out, HQQ2.out]; omega) ((low_alloc _ _).trans hb12).size ?_; intro v13 w13 hwo13 hs13 hb13))
        rw [HALL.out] at hwo13
        obtain ⟨a13, c13, hv13, hc13, -⟩ := hwo13.slice
        rw [HAL.out] at hv13 hc13
        subst hv13
        have hb1013 : Below w10.heap.size w10 w13 := ((low_alloc _ _).trans hb12).trans hb13
        have hb913 := low_trans hb10 hb1013
        have HO13 := Lib.hid (own_below HO9.out hb913)
        have HW13 := Lib.hid (HW9.out.below hb913 (Nat.le_refl _))
        have HB13 := Lib.hid (stepAny HB9.out hb913)
        have HTK := Lib.hid (Wp.takeN (v := .slice none 0 0) hwo13.wp kk hkl)
        clear hp10 hp11 hb10 hwo12 hs12 hb12 hwo13 hs13 hb13 hb1013 hb913
        go_upto_region 12 with fail
        have f1 : (0 : Int) ≤ (kk : Int) := by omega
        have f2 : (kk : Int) ≤ (c13 : Int) := by omega
        go_upto_if 106 with (first
          | (go_at_call 23; have hx := (japply_w (own_sl HO13.out (low_refl _)) HTK.out (by rw [List.length_take]; omega)).mono (fun _ _ h => h.at HAPK.out); (with_reducible refine hx.mono ?_); clear hx; rintro e w14 ⟨a14, k14, rfl, ho14, hb14⟩; rw [HAPL.out] at ho14; rw [HAPL.out])
          | (go_at_call 28; have hx := (jrecover_w (Sl.ofOwn ho14)).mono (fun _ _ h => h.at HREC.out); (with_reducible refine hx.mono ?_); clear hx; rintro e w15 ⟨a15, k15, rfl, ho15, hb15⟩; have hb1315 := low_trans hb14 hb15; rw [HGL.out] at ho15; rw [HGL.out])
          | (go_at_call 23; have hx := (japply_w (own_sl HO13.out hb1315) (HW13.out.below hb1315 (Nat.le_refl _)) (by omega)).mono (fun _ _ h => h.at HAU.out); (with_reducible refine hx.mono ?_); clear hx; rintro e w16 ⟨a16, k16, rfl, ho16, hb16⟩; have hb1316 := low_trans hb1315 hb16; rw [HAUL.out] at ho16; rw [HAUL.out]))
        have HD16 := Lib.hid (own_below HO13.out hb1316)
        have HG16 := Lib.hid (own_below ho15 hb16)
        have HA16 := Lib.hid ho16
        have HB16 := Lib.hid (stepAny HB13.out hb1316)
        clear ho14 hb14 ho15 hb15 hb1315 ho16 hb16 hb1316
        have HHG : Hid (∀ W, Below w16.heap.size w16 W → Calls Try.prog 30 #[.slice a15 12288 k15] W fun e w' => e = .returned (.string ⟨(Jr.homeOf G).toArray⟩) ∧ Below W.heap.size W w') := fun W hW => rhomestr_w (own_sl HG16.out hW) HGL.out
        by_cases hc : kk < N + 1
        · have hc' : ¬ (((N : Int) + 1) ≤ (kk : Int)) := by omega
          have hhd : Jr.homeOf G = Jr.homeOf D := by have h := HHM.out; rw [HNN.out, if_pos hc] at h; exact h
          have HHW : Hid (∀ W, Below w16.heap.size w16 W → Calls Try.prog 30 #[.slice (some ⟨g, 0, none⟩) 12288 cg] W fun e w' => e = .returned (.string ⟨(Jr.homeOf G).toArray⟩) ∧ Below W.heap.size W w') := fun W hW => by rw [hhd]; exact rhomestr_w (own_sl HD16.out hW) HDL.out
          clear hhd
          go_wp2_with (first
            | (go_at_call 22; have hx := (jread_w (own_sl HG16.out (low_refl _))).mono (fun _ _ h => h.at HRG.out); (with_reducible refine hx.mono ?_); clear hx; rintro e w17 ⟨a17, k17, rfl, -, hb17⟩)
            | (go_at_call 30; (with_reducible refine (HHG.out _ hb17).mono ?_); rintro e w18 ⟨rfl, hb18⟩; have hb1618 := stepAny hb17 hb18)
            | (go_at_call 30; (with_reducible refine (HHW.out _ hb1618).mono ?_); rintro e w19 ⟨rfl, hb19⟩))
          go_ret
          exact ⟨rfl, stepAny HB16.out (stepAny hb1618 hb19)⟩
        · have hc' : (((N : Int) + 1) ≤ (kk : Int)) := by omega
          have hhd : Jr.homeOf G = Jr.homeOf AU := by have h := HHM.out; rw [HNN.out, if_neg hc] at h; exact h
          have HHW : Hid (∀ W, Below w16.heap.size w16 W → Calls Try.prog 30 #[.slice a16 12288 k16] W fun e w' => e = .returned (.string ⟨(Jr.homeOf G).toArray⟩) ∧ Below W.heap.size W w') := fun W hW => by rw [hhd]; exact rhomestr_w (own_sl HA16.out hW) HAUL.out
          clear hhd
          go_wp2_with (first
            | (go_at_call 22; have hx := (jread_w (own_sl HG16.out (low_refl _))).mono (fun _ _ h => h.at HRG.out); (with_reducible refine hx.mono ?_); clear hx; rintro e w17 ⟨a17, k17, rfl, -, hb17⟩)
            | (go_at_call 30; (with_reducible refine (HHG.out _ hb17).mono ?_); rintro e w18 ⟨rfl, hb18⟩; have hb1618 := stepAny hb17 hb18)
            | (go_at_call 30; (with_reducible refine (HHW.out _ hb1618).mono ?_); rintro e w19 ⟨rfl, hb19⟩))
          go_ret
          exact ⟨rfl, stepAny HB16.out (stepAny hb1618 hb19)⟩
end Go.Proofs.Ytcbgablnbgpjdaa
