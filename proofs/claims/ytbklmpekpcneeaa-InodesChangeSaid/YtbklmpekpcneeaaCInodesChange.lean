/-
  The law InodesChange is proved: it answers true for every input (its walk, and the row).
-/
import Derived.Test.YtbklmpekpcneeaaBk
import Derived.Test.YtbklmpekpcneeaaBi
import Derived.Test.YtbklmpekpcneeaaBh
import Derived.Test.YtbklmpekpcneeaaBg
import Derived.Test.YtbklmpekpcneeaaRows
import Derived.WalkKit
import Derived.ProofKit
import Derived.OpenShut
import Derived.ShutString
import Derived.ChangeOld
import Derived.Below
set_option linter.unusedVariables false
set_option linter.unusedSimpArgs false
namespace Go.Proofs.Ytbklmpekpcneeaa
open Go.RowKit
set_option maxRecDepth 100000


set_option maxHeartbeats 16000000 in
theorem lchange_w {v0 v1 v2 : Value} {w : World} (o0 : IsOps w v0) (o1 : IsChg w v1) (o2 : IsOp w v2) : Calls Try.prog 8 #[v0, v1, v2] w fun e w' => e = .returned (.bool true) ∧ Below w.heap.size w w' := by
  obtain ⟨l0, hv0⟩ := o0
  obtain ⟨cn1, cc1, rfl, hcn1⟩ := o1
  obtain ⟨x2, a2, c2, rfl, hx2⟩ := o2
  obtain ⟨a0, c0, rfl, -⟩ := hv0.open
  have HV0 := Lib.hid hv0
  have HAW := Lib.hid awake_w
  have HFE : Hid (∀ W, Below w.heap.size w W → Calls Try.prog 12 #[.slice a0 l0.length c0] W fun e w' => e = .returned (.bool (Nd.few l0)) ∧ W = w') := fun W hW => rfew_w (hv0.below hW (Nat.le_refl _))
  have HDK : Hid (Nd.few l0 = true → ∀ W, Below w.heap.size w W → Calls Try.prog 13 #[.slice a0 l0.length c0] W fun e w' => ∃ v', e = .returned v' ∧ Sl eb w' v' (Nd.disk l0) ∧ Below W.heap.size W w') := fun hf W hW => rdisk_w (hv0.below hW (Nat.le_refl _)) hf
  have HOK := Lib.hid (Nd.disk_ok l0)
  clear hv0
  obtain ⟨kd, nn, oo, s⟩ := x2
  simp only at hx2
  obtain ⟨W0, hW0⟩ : ∃ W, W = w.alloc (.cells #[.int .u16 cn1, eb cc1] 37 (0, 0)) := ⟨_, rfl⟩
  have hl0 : Below w.heap.size w W0 := by rw [hW0]; exact low_alloc _ _
  have hk0 : Bk W0 w.heap.size 37 [.int .u16 cn1, eb cc1] := by rw [hW0]; exact Bk.new w _ [.int .u16 cn1, eb cc1]
  have hz0 : W0.heap.size = w.heap.size + 1 := by rw [hW0]; simp
  obtain ⟨W1, hW1⟩ : ∃ W, W = W0.alloc (.cells #[.int .i64 kd, .int .i64 nn, .int .i64 oo, .slice a2 s.length c2] 55 (0, 0)) := ⟨_, rfl⟩
  have hl01 : Below W0.heap.size W0 W1 := by rw [hW1]; exact low_alloc _ _
  have hl1 : Below w.heap.size w W1 := stepAny hl0 hl01
  have hk1 : Bk W1 (w.heap.size + 1) 55 [.int .i64 kd, .int .i64 nn, .int .i64 oo, .slice a2 s.length c2] := by rw [hW1, ← hz0]; exact Bk.new W0 _ [.int .i64 kd, .int .i64 nn, .int .i64 oo, .slice a2 s.length c2]
  have hk01 := hk0.below hl01 hk0.lt
  have HW1 : Hid (W1 = (w.alloc (.cells #[.int .u16 cn1, eb cc1] 37 (0, 0))).alloc (.cells #[.int .i64 kd, .int .i64 nn, .int .i64 oo, .slice a2 s.length c2] 55 (0, 0))) := by show _ = _; rw [hW1, hW0]
  have HL1 := Lib.hid hl1
  have HQ : Hid (∀ W, Below W1.heap.size W1 W → W.cell? ⟨w.heap.size + 1, 0, none⟩ = some (.int .i64 kd) ∧ W.cell? ⟨w.heap.size + 1, 1, none⟩ = some (.int .i64 nn) ∧ W.cell? ⟨w.heap.size + 1, 2, none⟩ = some (.int .i64 oo) ∧ W.cell? ⟨w.heap.size + 1, 3, none⟩ = some (.slice a2 s.length c2) ∧ Sl eb W (.slice a2 s.length c2) s) := fun W hW => by
    have h := hk1.below hW hk1.lt
    exact ⟨h.cell 0, h.cell 1, h.cell 2, h.cell 3, (hx2.below hl1 (Nat.le_refl _)).below hW (Nat.le_refl _)⟩
  have HQC : Hid (∀ W, Below W1.heap.size W1 W → W.cell? ⟨w.heap.size, 0, none⟩ = some (.int .u16 cn1) ∧ W.cell? ⟨w.heap.size, 1, none⟩ = some (eb cc1)) := fun W hW => by
    have h := hk01.below hW hk01.lt
    exact ⟨h.cell 0, h.cell 1⟩
  have HF1 : Hid (∀ W n, n = W.heap.size → Below W1.heap.size W1 W → Calls Try.prog 12 #[.slice (some ⟨n, 0, none⟩) 1 1] (W.alloc (.cells #[.int .i64 kd, .int .i64 nn, .int .i64 oo, .slice a2 s.length c2] 55)) fun e w' => e = .returned (.bool (decide (s.length ≤ 1600))) ∧ W.alloc (.cells #[.int .i64 kd, .int .i64 nn, .int .i64 oo, .slice a2 s.length c2] 55) = w') := fun W n hn hW => by
    have hs : Sl eb (W.alloc (.cells #[.int .i64 kd, .int .i64 nn, .int .i64 oo, .slice a2 s.length c2] 55)) (.slice a2 s.length c2) s := ((hx2.below hl1 (Nat.le_refl _)).below hW (Nat.le_refl _)).below (low_alloc W _) (Nat.le_refl _)
    have h := rfew_w (v := .slice (some ⟨n, 0, none⟩) 1 1) (l := [(kd, nn, oo, s)]) (w := W.alloc (.cells #[.int .i64 kd, .int .i64 nn, .int .i64 oo, .slice a2 s.length c2] 55))
      ⟨[(kd, nn, oo, a2, s.length, c2)], ⟨some ⟨n, 0, none⟩, 1, rfl, Nat.le_refl 1, by decide, by simp, Rm.one (s := 4) (enc := eo) W _ _ _ hn⟩, rfl, fun i h h' => by
        have hi : i = 0 := by simpa using h
        subst hi
        exact ⟨rfl, rfl, rfl, hs⟩⟩
    have e : Nd.few [(kd, nn, oo, s)] = decide (s.length ≤ 1600) := by simp [Nd.few]
    rw [e] at h
    exact h
  clear hx2 hW1 hl1 hk1 hW0 hl0 hk0 hz0 hl01 hk01 HOK
  clear HDK
  cases hf : Nd.few l0 with
  | false =>
    rw [hf] at HFE
    clear hf
    go_enter Try.func8, Try.ntmps8
    go_upto_region 1 with fail
    rw [← HW1.out]
    go_wp2_with (first
      | (go_at_call 11; (with_reducible refine (HAW.out _).mono ?_); rintro e w1 ⟨rfl, hb1⟩)
      | (go_at_call 12; (with_reducible refine (HFE.out _ (stepAny HL1.out hb1)).mono ?_); rintro e w' ⟨rfl, rfl⟩))
    go_ret
    exact ⟨rfl, stepAny HL1.out hb1⟩
  | true =>
  have HDKC : Hid (∀ W on, Below w.heap.size w W → Calls Try.prog 18 #[.slice a0 l0.length c0, .bool on, .agg #[.int .u16 cn1, eb cc1]] W fun e w' => ∃ v' d, e = .returned v' ∧ d.length = 12288 ∧ Sl eb w' v' d ∧ Below W.heap.size W w') := fun W on hW => ldisk_w (HV0.out.below hW (Nat.le_refl _)) hf on cn1 hcn1 cc1
  rw [hf] at HFE
  clear hf
  by_cases hs16 : s.length ≤ 1600
  rotate_left
  · have f0 : decide (s.length ≤ 1600) = false := decide_eq_false hs16
    rw [f0] at HF1
    clear f0
    go_enter Try.func8, Try.ntmps8
    go_upto_region 1 with fail
    rw [← HW1.out]
    go_upto_region 3 with (first
      | (go_at_call 11; (with_reducible refine (HAW.out _).mono ?_); rintro e w1 ⟨rfl, hb1⟩))
    obtain ⟨z0, z1, z2, z3, z4⟩ := HQ.out w1 hb1
    go_wp2_with (first
      | (go_at_call 12; (with_reducible refine (HFE.out _ (stepAny HL1.out hb1)).mono ?_); rintro e w' ⟨rfl, rfl⟩)
      | (go_at_call 12; (with_reducible refine (HF1.out w1 _ rfl hb1).mono ?_); rintro e w' ⟨rfl, rfl⟩))
    go_ret
    exact ⟨rfl, stepAny HL1.out (stepAny hb1 (low_alloc _ _))⟩
  have f0 : decide (s.length ≤ 1600) = true := decide_eq_true hs16
  rw [f0] at HF1
  clear f0
  go_enter Try.func8, Try.ntmps8
  go_upto_region 1 with fail
  rw [← HW1.out]
  go_upto_region 3 with (first
    | (go_at_call 11; (with_reducible refine (HAW.out _).mono ?_); rintro e w1 ⟨rfl, hb1⟩))
  obtain ⟨z0, z1, z2, z3, z4⟩ := HQ.out w1 hb1
  go_upto_region 5 with (first
    | (go_at_call 12; (with_reducible refine (HFE.out _ (stepAny HL1.out hb1)).mono ?_); rintro e w' ⟨rfl, rfl⟩)
    | (go_at_call 12; (with_reducible refine (HF1.out w1 _ rfl hb1).mono ?_); rintro e w' ⟨rfl, rfl⟩))
  clear z0 z1 z2 z3 z4
  have hb2 := stepAny hb1 (low_alloc w1 (.cells #[.int .i64 kd, .int .i64 nn, .int .i64 oo, .slice a2 s.length c2] 55))
  generalize w1.alloc (.cells #[.int .i64 kd, .int .i64 nn, .int .i64 oo, .slice a2 s.length c2] 55) = w2 at hb2 ⊢
  clear hb1 HAW HFE HF1
  go_upto_region 6 with fail
  obtain ⟨wd, hwd⟩ : ∃ W, W = w2.alloc (.cells #[.bool false, .bool true] 4) := ⟨_, rfl⟩
  have hkd : Bk wd w2.heap.size 4 [.bool false, .bool true] := by rw [hwd]; exact Bk.new w2 _ [.bool false, .bool true]
  have hld : Below W1.heap.size W1 wd := by rw [hwd]; exact stepAny hb2 (low_alloc w2 _)
  rw [← hwd]
  obtain ⟨gs, hgs⟩ : ∃ g, g = w2.heap.size := ⟨_, rfl⟩
  rw [← hgs] at hkd ⊢
  have HON : Hid (∀ W j, Below wd.heap.size wd W → j < 2 → W.cell? ⟨gs, j, none⟩ = some (.bool (j == 1))) := fun W j hW hj => by
    have h := (hkd.below hW hkd.lt).cell j
    rw [h]
    match j, hj with
    | 0, _ => rfl
    | 1, _ => rfl
  have HLD := Lib.hid hld
  have HQD : Hid (∀ W, Below wd.heap.size wd W → W.cell? ⟨w.heap.size + 1, 1, none⟩ = some (.int .i64 nn) ∧ W.cell? ⟨w.heap.size + 1, 2, none⟩ = some (.int .i64 oo) ∧ W.cell? ⟨w.heap.size + 1, 3, none⟩ = some (.slice a2 s.length c2) ∧ Sl eb W (.slice a2 s.length c2) s) := fun W hW => (HQ.out W (stepAny HLD.out hW)).2
  clear hwd hkd hld hgs hb2 HQ
  go_wp2_with fail
  go_loopw [29] (fun i wr => ∃ j : Nat, i = .int .i64 j ∧ j ≤ 2 ∧ Below wd.heap.size wd wr) (fun i _ => 2 - (intOf i).toNat)
  case atStart => exact ⟨0, rfl, by omega, Below.refl _ _⟩
  case round =>
    rename World => wr
    obtain ⟨j, rfl, hj, hbr⟩ := hrel
    by_cases hlt : j < 2
    · have f5 : (j : Int) < 2 := by omega
      have f6 : (0 : Int) ≤ (j : Int) := by omega
      have zon := HON.out wr j hbr hlt
      generalize (j == 1) = on at zon
      obtain ⟨y0, y1⟩ := HQC.out wr (stepAny HLD.out hbr)
      have HDC := Lib.hid (HDKC.out wr on (stepAny HL1.out (stepAny HLD.out hbr)))
      have HBR := Lib.hid hbr
      clear hbr
      go_upto_region 9 with (go_at_call 18; (with_reducible refine HDC.out.mono ?_); rintro e w3 ⟨v3, D, rfl, hDl, hs3, hb3⟩)
      have HD := Lib.hid hDl
      have HSD := Lib.hid hs3
      have HB3 := Lib.hid (stepAny HBR.out hb3)
      have hr3 := Below.refl w3.heap.size w3
      clear zon y0 y1 hDl hs3 hb3 HDC HON HDKC
      obtain ⟨r1, D1, e1, hx⟩ : ∃ r D' e', Nd.alloc D nn = (r, D', e') := ⟨_, _, _, rfl⟩
      have HI1 : Hid (∀ W, Below w3.heap.size w3 W → Calls Try.prog 34 #[v3, .int .i64 nn] W fun e w' => ∃ v', e = .returned (.tuple #[.int .i64 r1, v', .int .i64 e1]) ∧ Sl eb w' v' D1 ∧ Below W.heap.size W w') := fun W hW => by
        have h := valloc_w (HSD.out.below hW (Nat.le_refl _)) (by rw [HD.out]; decide) nn
        rw [hx] at h
        exact h
      have HR1 : Hid (∀ W, Below w3.heap.size w3 W → Calls Try.prog 35 #[v3, .int .i64 nn] W fun e w' => ∃ v', e = .returned (.tuple #[.int .i64 r1, v', .int .i64 e1]) ∧ Sl eb w' v' D1 ∧ Below W.heap.size W w') := fun W hW => by
        have h := ralloc_w (HSD.out.below hW (Nat.le_refl _)) HD.out nn
        rw [hx] at h
        exact h
      clear hx
      have HZ := Lib.hid (HQD.out w3 (stepAny HB3.out hr3))
      obtain ⟨q1, q2, q3, -⟩ := HZ.out
      clear HZ
      go_upto_region 10 with (go_at_call 34; (with_reducible refine (HI1.out _ hr3).mono ?_); rintro e wa1 ⟨va1, rfl, hsa1, hba1⟩)
      have hla1 := stepAny hr3 hba1
      clear q1 q2 q3
      have HZ := Lib.hid (HQD.out wa1 (stepAny HB3.out hla1))
      obtain ⟨q1, q2, q3, -⟩ := HZ.out
      clear HZ
      go_upto_region 11 with (go_at_call 35; (with_reducible refine (HR1.out _ hla1).mono ?_); rintro e wb1 ⟨vb1, rfl, hsb1, hbb1⟩)
      have hlb1 := stepAny hla1 hbb1
      clear q1 q2 q3
      obtain ⟨p1, n1, rfl, -, -, -, hra1⟩ := hsa1.below hbb1 (Nat.le_refl _)
      obtain ⟨p1', n1', rfl, -, -, -, hrb1⟩ := hsb1
      have hca := conv_run wb1 p1 D1 n1 hra1
      have hcb := conv_run wb1 p1' D1 n1' hrb1
      clear hra1 hrb1 hsa1 hba1 hbb1 hla1 HI1 HR1
      go_upto_region 13 with fail
      clear hca hcb
      obtain ⟨D2, e2, hx⟩ : ∃ D' e', Nd.freeN D nn = (D', e') := ⟨_, _, rfl⟩
      have HI2 : Hid (∀ W, Below w3.heap.size w3 W → Calls Try.prog 36 #[v3, .int .i64 nn] W fun e w' => ∃ v', e = .returned (.tuple #[v', .int .i64 e2]) ∧ Sl eb w' v' D2 ∧ Below W.heap.size W w') := fun W hW => by
        have h := vfree_w (HSD.out.below hW (Nat.le_refl _)) (by rw [HD.out]; decide) nn
        rw [hx] at h
        exact h
      have HR2 : Hid (∀ W, Below w3.heap.size w3 W → Calls Try.prog 37 #[v3, .int .i64 nn] W fun e w' => ∃ v', e = .returned (.tuple #[v', .int .i64 e2]) ∧ Sl eb w' v' D2 ∧ Below W.heap.size W w') := fun W hW => by
        have h := rfree_w (HSD.out.below hW (Nat.le_refl _)) HD.out nn
        rw [hx] at h
        exact h
      clear hx
      have HZ := Lib.hid (HQD.out wb1 (stepAny HB3.out hlb1))
      obtain ⟨q1, q2, q3, -⟩ := HZ.out
      clear HZ
      go_upto_region 14 with (go_at_call 36; (with_reducible refine (HI2.out _ hlb1).mono ?_); rintro e wa2 ⟨va2, rfl, hsa2, hba2⟩)
      have hla2 := stepAny hlb1 hba2
      clear q1 q2 q3
      have HZ := Lib.hid (HQD.out wa2 (stepAny HB3.out hla2))
      obtain ⟨q1, q2, q3, -⟩ := HZ.out
      clear HZ
      go_upto_region 15 with (go_at_call 37; (with_reducible refine (HR2.out _ hla2).mono ?_); rintro e wb2 ⟨vb2, rfl, hsb2, hbb2⟩)
      have hlb2 := stepAny hla2 hbb2
      clear q1 q2 q3
      obtain ⟨p2, n2, rfl, -, -, -, hra2⟩ := hsa2.below hbb2 (Nat.le_refl _)
      obtain ⟨p2', n2', rfl, -, -, -, hrb2⟩ := hsb2
      have hca := conv_run wb2 p2 D2 n2 hra2
      have hcb := conv_run wb2 p2' D2 n2' hrb2
      clear hra2 hrb2 hsa2 hba2 hbb2 hla2 HI2 HR2
      go_upto_region 17 with fail
      clear hca hcb
      obtain ⟨D3, e3, hx⟩ : ∃ D' e', Nd.write D nn oo s = (D', e') := ⟨_, _, rfl⟩
      have HI3 : Hid (∀ W, Below w3.heap.size w3 W → Calls Try.prog 27 #[v3, .int .i64 nn, .int .i64 oo, .slice a2 s.length c2] W fun e w' => ∃ v', e = .returned (.tuple #[v', .int .i64 e3]) ∧ Sl eb w' v' D3 ∧ Below W.heap.size W w') := fun W hW => by
        have h := vwrite_w (HSD.out.below hW (Nat.le_refl _)) (by rw [HD.out]; decide) nn oo (HQD.out W (stepAny HB3.out hW)).2.2.2 (by omega)
        rw [hx] at h
        exact h
      have HR3 : Hid (∀ W, Below w3.heap.size w3 W → Calls Try.prog 38 #[v3, .int .i64 nn, .int .i64 oo, .slice a2 s.length c2] W fun e w' => ∃ v', e = .returned (.tuple #[v', .int .i64 e3]) ∧ Sl eb w' v' D3 ∧ Below W.heap.size W w') := fun W hW => by
        have h := rwrite_w (HSD.out.below hW (Nat.le_refl _)) HD.out nn oo (HQD.out W (stepAny HB3.out hW)).2.2.2 (by omega)
        rw [hx] at h
        exact h
      clear hx
      have HZ := Lib.hid (HQD.out wb2 (stepAny HB3.out hlb2))
      obtain ⟨q1, q2, q3, -⟩ := HZ.out
      clear HZ
      go_upto_region 18 with (go_at_call 27; (with_reducible refine (HI3.out _ hlb2).mono ?_); rintro e wa3 ⟨va3, rfl, hsa3, hba3⟩)
      have hla3 := stepAny hlb2 hba3
      clear q1 q2 q3
      have HZ := Lib.hid (HQD.out wa3 (stepAny HB3.out hla3))
      obtain ⟨q1, q2, q3, -⟩ := HZ.out
      clear HZ
      go_upto_region 19 with (go_at_call 38; (with_reducible refine (HR3.out _ hla3).mono ?_); rintro e wb3 ⟨vb3, rfl, hsb3, hbb3⟩)
      have hlb3 := stepAny hla3 hbb3
      clear q1 q2 q3
      obtain ⟨p3, n3, rfl, -, -, -, hra3⟩ := hsa3.below hbb3 (Nat.le_refl _)
      obtain ⟨p3', n3', rfl, -, -, -, hrb3⟩ := hsb3
      have hca := conv_run wb3 p3 D3 n3 hra3
      have hcb := conv_run wb3 p3' D3 n3' hrb3
      clear hra3 hrb3 hsa3 hba3 hbb3 hla3 HI3 HR3
      go_upto_region 21 with fail
      clear hca hcb
      obtain ⟨D4, e4, hx⟩ : ∃ D' e', Nd.truncate D nn oo = (D', e') := ⟨_, _, rfl⟩
      have HI4 : Hid (∀ W, Below w3.heap.size w3 W → Calls Try.prog 14 #[v3, .int .i64 nn, .int .i64 oo] W fun e w' => ∃ v', e = .returned (.tuple #[v', .int .i64 e4]) ∧ Sl eb w' v' D4 ∧ Below W.heap.size W w') := fun W hW => by
        have h := vtrunc_w (HSD.out.below hW (Nat.le_refl _)) (by rw [HD.out]; decide) nn oo
        rw [hx] at h
        exact h
      have HR4 : Hid (∀ W, Below w3.heap.size w3 W → Calls Try.prog 39 #[v3, .int .i64 nn, .int .i64 oo] W fun e w' => ∃ v', e = .returned (.tuple #[v', .int .i64 e4]) ∧ Sl eb w' v' D4 ∧ Below W.heap.size W w') := fun W hW => by
        have h := rtrunc_w (HSD.out.below hW (Nat.le_refl _)) HD.out nn oo
        rw [hx] at h
        exact h
      clear hx
      have HZ := Lib.hid (HQD.out wb3 (stepAny HB3.out hlb3))
      obtain ⟨q1, q2, q3, -⟩ := HZ.out
      clear HZ
      go_upto_region 22 with (go_at_call 14; (with_reducible refine (HI4.out _ hlb3).mono ?_); rintro e wa4 ⟨va4, rfl, hsa4, hba4⟩)
      have hla4 := stepAny hlb3 hba4
      clear q1 q2 q3
      have HZ := Lib.hid (HQD.out wa4 (stepAny HB3.out hla4))
      obtain ⟨q1, q2, q3, -⟩ := HZ.out
      clear HZ
      go_upto_region 23 with (go_at_call 39; (with_reducible refine (HR4.out _ hla4).mono ?_); rintro e wb4 ⟨vb4, rfl, hsb4, hbb4⟩)
      have hlb4 := stepAny hla4 hbb4
      clear q1 q2 q3
      obtain ⟨p4, n4, rfl, -, -, -, hra4⟩ := hsa4.below hbb4 (Nat.le_refl _)
      obtain ⟨p4', n4', rfl, -, -, -, hrb4⟩ := hsb4
      have hca := conv_run wb4 p4 D4 n4 hra4
      have hcb := conv_run wb4 p4' D4 n4' hrb4
      clear hra4 hrb4 hsa4 hba4 hbb4 hla4 HI4 HR4
      go_upto_region 25 with fail
      clear hca hcb
      have HEND := Lib.hid hlb4
      go_wp2_with fail
      go_roundw
      case rel => exact ⟨j + 1, by go_num, by omega, stepAny HB3.out HEND.out⟩
      case measure => simp [intOf]; omega
    · have f5 : ¬ (j : Int) < 2 := by omega
      have HB4 := Lib.hid (stepAny HL1.out (stepAny HLD.out hbr))
      clear hbr
      go_wp2_with fail
      go_ret
      exact ⟨rfl, HB4.out⟩
end Go.Proofs.Ytbklmpekpcneeaa
namespace Go.Proofs.Ytbklmpekpcneeaa.inodesChange
open Go.ChangeShapes Go.WideShapes Go.ChangeAt Go.RowKit
set_option linter.unusedVariables false

theorem own : ownKnob Try.prog.godebug = none := by kernel_rfl
theorem laidOut : laidOutB Try.prog = true := by kernel_rfl

set_option maxRecDepth 100000 in
theorem lifted (os : Os) (started : os.Started) (H : Type) (enc : TypeId × Value → H) :
    ReturnsInHanded {} Try.checked os 8 .any (Rows.inodesChangeSpec.pre6 enc Try.prog Try.f8 Rows.inodesChangeRow.domain false) (Rows.inodesChangeSpec.post enc Try.prog Try.f8 false true false false) := by
  refine returnsInHanded_of_change (C := Try.checked) own started (by kernel_rfl) Try.func8
    (ChangeSpec.witness6 (enc := enc) (C := Try.checked) false ⟨#[], #[.slice none 0 0, .agg #[.int .u16 0, .int .u8 0], .agg #[.int .i64 0, .int .i64 0, .int .i64 0, .slice none 0 0]], []⟩ 8 (by kernel_rfl) (by kernel_rfl) (by kernel_rfl) (by kernel_rfl)) ?_
  intro W base args ds gs before hval0 hW hcnd _
  have hval : ∀ (j : Nat) t v, Try.f8.params[j]? = some t → args[j]? = some v → Value.okWide Try.prog W .any base t v := hval0
  have hW' := hW
  obtain ⟨p, q, hA0, hV, rfl, hfz, hnd⟩ := hW
  have hA : DataW.TrodAll enc Try.prog W 0 (fun _ => true) true Try.f8.params.toList args.toList ds p := hA0
  rw [Try.params8] at hA hval
  obtain ⟨v0, vs0, d0, ds0, p0, q0, hargs, rfl, rfl, h0, r0⟩ := trodAll_cons hA
  obtain ⟨v1, vs1, d1, ds1, p1, q1, rfl, rfl, rfl, h1, r1⟩ := trodAll_cons r0
  obtain ⟨v2, vs2, d2, ds2, p2, q2, rfl, rfl, rfl, h2, r2⟩ := trodAll_cons r1
  obtain ⟨rfl, rfl, rfl⟩ := trodAll_nil r2
  obtain rfl : args = #[v0, v1, v2] := by cases args; simp_all
  obtain ⟨rfl, rfl⟩ := trodVars_none hV
  have k0 := h0
  have lt0 : ∀ x ∈ p0, x.block < W.heap.size := by obtain ⟨m, hm⟩ := k0; exact DataW.trod_lt m _ _ _ hm
  have o0 := open_ops (hval 0 22 v0 rfl rfl) (Arg.of h0)
  have k1 := h1
  have lt1 : ∀ x ∈ p1, x.block < W.heap.size := by obtain ⟨m, hm⟩ := k1; exact DataW.trod_lt m _ _ _ hm
  have o1 := open_chg (hval 1 37 v1 rfl rfl) (Arg.of h1)
  have k2 := h2
  have lt2 : ∀ x ∈ p2, x.block < W.heap.size := by obtain ⟨m, hm⟩ := k2; exact DataW.trod_lt m _ _ _ hm
  have o2 := open_op (hval 2 55 v2 rfl rfl) (Arg.of h2)
  clear hA0 hval0
  refine (lchange_w o0 o1 o2).mono fun e W' ⟨he, bel⟩ => ?_
  subst he
  exact ⟨_, rfl, _, _, _, [], _, [], hW', trodAll_mk1 (shut_bool Try.underlying4 _), (trodAll_cons_mk (Below.trod laidOut (by kernel_rfl) (of_decide_eq_true (by kernel_rfl)) k0 bel lt0) (trodAll_cons_mk (Below.trod laidOut (by kernel_rfl) (of_decide_eq_true (by kernel_rfl)) k1 bel lt1) (trodAll_cons_mk (Below.trod laidOut (by kernel_rfl) (of_decide_eq_true (by kernel_rfl)) k2 bel lt2) trodAll_mk0))), rfl, bel.frame _, fun h => by cases h⟩

theorem over : Rows.inodesChangeRow.holds Try.pinned (OpenSpec.ofChange Rows.inodesChangeSpec) :=
  OpenClaim.holds_of_wide 8 Try.f8 rfl rfl rfl rfl rfl rfl rfl ⟨rfl, rfl, rfl, rfl, rfl⟩ rfl rfl rfl rfl rfl (by kernel_rfl) Try.func8 (by kernel_rfl)
    (of_decide_eq_true (by kernel_rfl)) (by unfold Func.isWrapper; first | (rw [if_pos (by decide +kernel)]; kernel_rfl) | (rw [if_neg (by decide +kernel)]; exact ⟨rfl, rfl⟩))
    (fun os started H enc _ => lifted os started H enc)

/-- The statement. -/
theorem proved : Rows.InodesChangeSaid := over
#print axioms proved
end Go.Proofs.Ytbklmpekpcneeaa.inodesChange
