/-
  The law InodesCheck is proved: it answers true for every input (its walk, and the row).
-/
import Derived.Test.YtbklmpekpcneeaaBk
import Derived.Test.YtbklmpekpcneeaaBl
import Derived.Test.YtbklmpekpcneeaaBi
import Derived.Test.YtbklmpekpcneeaaRows
import Derived.WalkKit
import Derived.ProofKit
import Derived.OpenShut
import Derived.ShutString
import Derived.ChangeOld
import Derived.Below
set_option linter.unusedVariables false
set_option linter.unusedSimpArgs false
namespace Go.Proofs.Ytbklmpekpcneeaa
open Go.RowKit
set_option maxRecDepth 100000

theorem get_bd (d : List UInt8) (n : Int) : (Nd.get d n).1.kind < 65536 ∧ (Nd.get d n).1.size < 65536 ∧ ∀ b ∈ (Nd.get d n).1.bl, b < 65536 := by
  have hf : Nd.free.kind < 65536 ∧ Nd.free.size < 65536 ∧ ∀ b ∈ Nd.free.bl, b < 65536 := ⟨by decide, by decide, by decide⟩
  unfold Nd.get
  split
  · exact hf
  split
  · exact hf
  split
  · exact hf
  · have h := Nd.raw_enc d n.toNat
    refine ⟨Nat.lt_of_lt_of_le h.k (by decide), h.s, fun b hb => ?_⟩
    obtain ⟨i, hi, rfl⟩ := List.getElem_of_mem hb
    have h2 := h.b i
    unfold Nd.bk at h2
    rw [List.getD_eq_getElem?_getD, List.getElem?_eq_getElem hi] at h2
    exact Nat.lt_of_lt_of_le h2 (by decide)
theorem splice_ino {x : Nd.Ino} (hx : x.bl.length = 12) : splice [.int .i64 0, .int .i64 0, .int .i64 0, .int .i64 0, .int .i64 0, .int .i64 0, .int .i64 0, .int .i64 0, .int .i64 0, .int .i64 0, .int .i64 0, .int .i64 0, .int .i64 0, .int .i64 0] 0 (ic x) = ic x := by
  unfold splice
  rw [List.take_zero, List.nil_append, List.drop_eq_nil_of_le (by rw [ic_len hx]; decide), List.append_nil]

set_option maxHeartbeats 16000000 in
theorem lcheck_w {v0 v1 v2 : Value} {w : World} (o0 : IsOps w v0) (o1 : IsChg w v1) (o2 : IsI64 w v2) : Calls Try.prog 4 #[v0, v1, v2] w fun e w' => e = .returned (.bool true) ∧ Below w.heap.size w w' := by
  obtain ⟨l0, hv0⟩ := o0
  obtain ⟨cn1, cc1, rfl, hcn1⟩ := o1
  obtain ⟨n2, rfl, -, -⟩ := o2
  obtain ⟨a0, c0, rfl, -⟩ := hv0.open
  have HV0 := Lib.hid hv0
  have HAW := Lib.hid awake_w
  have HFE : Hid (∀ W, Below w.heap.size w W → Calls Try.prog 12 #[.slice a0 l0.length c0] W fun e w' => e = .returned (.bool (Nd.few l0)) ∧ W = w') := fun W hW => rfew_w (hv0.below hW (Nat.le_refl _))
  have HDK : Hid (Nd.few l0 = true → ∀ W, Below w.heap.size w W → Calls Try.prog 13 #[.slice a0 l0.length c0] W fun e w' => ∃ v', e = .returned v' ∧ Sl eb w' v' (Nd.disk l0) ∧ Below W.heap.size W w') := fun hf W hW => rdisk_w (hv0.below hW (Nat.le_refl _)) hf
  have HOK := Lib.hid (Nd.disk_ok l0)
  clear hv0
  obtain ⟨W1, hW1⟩ : ∃ W, W = w.alloc (.cells #[.int .u16 cn1, eb cc1] 37 (0, 0)) := ⟨_, rfl⟩
  have hl1 : Below w.heap.size w W1 := by rw [hW1]; exact low_alloc _ _
  have hk1 : Bk W1 w.heap.size 37 [.int .u16 cn1, eb cc1] := by rw [hW1]; exact Bk.new w _ [.int .u16 cn1, eb cc1]
  have HW1 := Lib.hid hW1
  have HL1 := Lib.hid hl1
  have HQC : Hid (∀ W, Below W1.heap.size W1 W → W.cell? ⟨w.heap.size, 0, none⟩ = some (.int .u16 cn1) ∧ W.cell? ⟨w.heap.size, 1, none⟩ = some (eb cc1)) := fun W hW => by
    have h := hk1.below hW hk1.lt
    exact ⟨h.cell 0, h.cell 1⟩
  clear hW1 hl1 hk1 HOK HDK
  cases hf : Nd.few l0 with
  | false =>
    rw [hf] at HFE
    clear hf
    go_enter Try.func4, Try.ntmps4
    go_upto_region 1 with fail
    rw [← HW1.out]
    go_wp2_with (first
      | (go_at_call 11; (with_reducible refine (HAW.out _).mono ?_); rintro e w1 ⟨rfl, hb1⟩)
      | (go_at_call 12; (with_reducible refine (HFE.out _ (stepAny HL1.out hb1)).mono ?_); rintro e w' ⟨rfl, rfl⟩))
    go_ret
    exact ⟨rfl, stepAny HL1.out hb1⟩
  | true =>
  have HDKC : Hid (∀ W on, Below w.heap.size w W → Calls Try.prog 18 #[.slice a0 l0.length c0, .bool on, .agg #[.int .u16 cn1, eb cc1]] W fun e w' => ∃ v' d, e = .returned v' ∧ d.length = 12288 ∧ Sl eb w' v' d ∧ Below W.heap.size W w') := fun W on hW => ldisk_w (HV0.out.below hW (Nat.le_refl _)) hf on cn1 hcn1 cc1
  rw [hf] at HFE
  clear hf
  go_enter Try.func4, Try.ntmps4
  go_upto_region 1 with fail
  rw [← HW1.out]
  go_upto_region 5 with (first
    | (go_at_call 11; (with_reducible refine (HAW.out _).mono ?_); rintro e w1 ⟨rfl, hb1⟩)
    | (go_at_call 12; (with_reducible refine (HFE.out _ (stepAny HL1.out hb1)).mono ?_); rintro e w' ⟨rfl, rfl⟩))
  have hb2 := hb1
  generalize w1 = w2 at *
  clear hb1 HAW HFE
  go_upto_region 6 with fail
  obtain ⟨wd, hwd⟩ : ∃ W, W = w2.alloc (.cells #[.bool false, .bool true] 4) := ⟨_, rfl⟩
  have hkd : Bk wd w2.heap.size 4 [.bool false, .bool true] := by rw [hwd]; exact Bk.new w2 _ [.bool false, .bool true]
  have hld : Below W1.heap.size W1 wd := by rw [hwd]; exact stepAny hb2 (low_alloc w2 _)
  rw [← hwd]
  obtain ⟨gs, hgs⟩ : ∃ g, g = w2.heap.size := ⟨_, rfl⟩
  rw [← hgs] at hkd ⊢
  have HON : Hid (∀ W j, Below wd.heap.size wd W → j < 2 → W.cell? ⟨gs, j, none⟩ = some (.bool (j == 1))) := fun W j hW hj => by
    have h := (hkd.below hW hkd.lt).cell j
    rw [h]
    match j, hj with
    | 0, _ => rfl
    | 1, _ => rfl
  have HLD := Lib.hid hld
  clear hwd hkd hld hgs hb2
  go_wp2_with fail
  go_loopw [27] (fun i wr => ∃ j : Nat, i = .int .i64 j ∧ j ≤ 2 ∧ Below wd.heap.size wd wr) (fun i _ => 2 - (intOf i).toNat)
  case atStart => exact ⟨0, rfl, by omega, Below.refl _ _⟩
  case round =>
    rename World => wr
    obtain ⟨j, rfl, hj, hbr⟩ := hrel
    by_cases hlt : j < 2
    · have f5 : (j : Int) < 2 := by omega
      have f6 : (0 : Int) ≤ (j : Int) := by omega
      have zon := HON.out wr j hbr hlt
      generalize (j == 1) = on at zon
      obtain ⟨y0, y1⟩ := HQC.out wr (stepAny HLD.out hbr)
      have HDC := Lib.hid (HDKC.out wr on (stepAny HL1.out (stepAny HLD.out hbr)))
      have HBR := Lib.hid hbr
      clear hbr
      go_upto_region 9 with (go_at_call 18; (with_reducible refine HDC.out.mono ?_); rintro e w3 ⟨v3, D, rfl, hDl, hs3, hb3⟩)
      have HB3 := Lib.hid (stepAny HBR.out hb3)
      have HI : Hid (∀ W, Below w3.heap.size w3 W → Calls Try.prog 19 #[v3, .int .i64 n2] W fun e w' => e = .returned (.tuple #[.agg (ic (Nd.get D n2).1).toArray, .int .i64 (Nd.get D n2).2]) ∧ Below W.heap.size W w') := fun W hW => vGet_w (hs3.below hW (Nat.le_refl _)) (by rw [hDl]; decide) n2
      have HR : Hid (∀ W, Below w3.heap.size w3 W → Calls Try.prog 20 #[v3, .int .i64 n2] W fun e w' => e = .returned (.tuple #[.agg (ic (Nd.get D n2).1).toArray, .int .i64 (Nd.get D n2).2]) ∧ Below W.heap.size W w') := fun W hW => rget_w (hs3.below hW (Nat.le_refl _)) hDl n2
      have HUI : Hid (∀ W, Below w3.heap.size w3 W → Calls Try.prog 16 #[v3] W fun e w' => e = .returned (.tuple #[.int .i64 (Nd.usage D).1, .int .i64 (Nd.usage D).2.1, .int .i64 (Nd.usage D).2.2]) ∧ Below W.heap.size W w') := fun W hW => vusage_w (hs3.below hW (Nat.le_refl _)) (by rw [hDl]; decide)
      have HUR : Hid (∀ W, Below w3.heap.size w3 W → Calls Try.prog 21 #[v3] W fun e w' => e = .returned (.tuple #[.int .i64 (Nd.usage D).1, .int .i64 (Nd.usage D).2.1, .int .i64 (Nd.usage D).2.2]) ∧ Below W.heap.size W w') := fun W hW => rusage_w (hs3.below hW (Nat.le_refl _)) hDl
      have HCI : Hid (∀ W, Below w3.heap.size w3 W → Calls Try.prog 17 #[v3] W fun e w' => e = .returned (.int .i64 (Nd.check D)) ∧ Below W.heap.size W w') := fun W hW => vcheck_w (hs3.below hW (Nat.le_refl _)) (by rw [hDl]; decide)
      have HCR : Hid (∀ W, Below w3.heap.size w3 W → Calls Try.prog 22 #[v3] W fun e w' => e = .returned (.int .i64 (Nd.check D)) ∧ Below W.heap.size W w') := fun W hW => rcheck_w (hs3.below hW (Nat.le_refl _)) hDl
      have HXN : Hid ((Nd.get D n2).1.bl.length = 12) := Nd.get_bl D n2
      have HXB := Lib.hid (get_bd D n2)
      generalize Nd.check D = ck at *
      obtain ⟨u1, u2, u3, hu⟩ : ∃ u1 u2 u3, Nd.usage D = (u1, u2, u3) := ⟨_, _, _, rfl⟩
      rw [hu] at HUI HUR
      simp only at HUI HUR
      obtain ⟨X, ec, hx⟩ : ∃ X ec, Nd.get D n2 = (X, ec) := ⟨_, _, rfl⟩
      rw [hx] at HI HR HXN HXB
      simp only at HI HR HXB
      have heq : ∀ W, (Op.equalIn 10000 45 (.agg (ic X).toArray) (.agg (ic X).toArray)).run Try.prog W = .ok true W := fun W => by
        have h := eq_ino X X HXN.out HXN.out HXB.out HXB.out W
        rw [decide_eq_true rfl] at h
        exact h
      have hr3 := Below.refl w3.heap.size w3
      clear zon y0 y1 hDl hs3 hb3 HDC HON HDKC hu hx HXB
      go_upto_region 10 with (first
        | (go_at_call 19; (with_reducible refine (HI.out _ hr3).mono ?_); rintro e w4 ⟨rfl, hb4⟩; have hl4 := stepAny hr3 hb4)
        | (refine wpList_store_part rfl 42 _ _ rfl w4.heap.size 0 14 (ic X) rfl rfl 42 [.int .i64 0, .int .i64 0, .int .i64 0, .int .i64 0, .int .i64 0, .int .i64 0, .int .i64 0, .int .i64 0, .int .i64 0, .int .i64 0, .int .i64 0, .int .i64 0, .int .i64 0, .int .i64 0] (Bk.new w4 _ [.int .i64 0, .int .i64 0, .int .i64 0, .int .i64 0, .int .i64 0, .int .i64 0, .int .i64 0, .int .i64 0, .int .i64 0, .int .i64 0, .int .i64 0, .int .i64 0, .int .i64 0, .int .i64 0]) (ic_len HXN.out) (by simp) Try.sizeII (ic_one _) ?_; intro w5 hk5 hg5))
      rw [splice_ino HXN.out] at hk5
      have hb5 : Below w3.heap.size w3 w5 := (stepAny hl4 (low_alloc w4 (.cells #[.int .i64 0, .int .i64 0, .int .i64 0, .int .i64 0, .int .i64 0, .int .i64 0, .int .i64 0, .int .i64 0, .int .i64 0, .int .i64 0, .int .i64 0, .int .i64 0, .int .i64 0, .int .i64 0] 42 (0, 0)))).trans (below_of_grown hg5 hl4.size (stepAny hl4 (low_alloc w4 (.cells #[.int .i64 0, .int .i64 0, .int .i64 0, .int .i64 0, .int .i64 0, .int .i64 0, .int .i64 0, .int .i64 0, .int .i64 0, .int .i64 0, .int .i64 0, .int .i64 0, .int .i64 0, .int .i64 0] 42 (0, 0)))).size)
      obtain ⟨b5, hb5e⟩ : ∃ y, y = w4.heap.size := ⟨_, rfl⟩
      rw [← hb5e] at hk5 ⊢
      have HK5 := Lib.hid hk5
      clear hk5 hg5 hb4 hl4 hb5e
      go_upto_region 11 with (first
        | (go_at_call 20; (with_reducible refine (HR.out _ hb5).mono ?_); rintro e w6 ⟨rfl, hb6⟩; have hl6 := stepAny hb5 hb6)
        | (refine wpList_store_part rfl 45 _ _ rfl w6.heap.size 0 14 (ic X) rfl rfl 45 [.int .i64 0, .int .i64 0, .int .i64 0, .int .i64 0, .int .i64 0, .int .i64 0, .int .i64 0, .int .i64 0, .int .i64 0, .int .i64 0, .int .i64 0, .int .i64 0, .int .i64 0, .int .i64 0] (Bk.new w6 _ [.int .i64 0, .int .i64 0, .int .i64 0, .int .i64 0, .int .i64 0, .int .i64 0, .int .i64 0, .int .i64 0, .int .i64 0, .int .i64 0, .int .i64 0, .int .i64 0, .int .i64 0, .int .i64 0]) (ic_len HXN.out) (by simp) Try.sizeRI (ic_one _) ?_; intro w7 hk7 hg7))
      rw [splice_ino HXN.out] at hk7
      have hb67 : Below w5.heap.size w5 w7 := (stepAny hb6 (low_alloc w6 (.cells #[.int .i64 0, .int .i64 0, .int .i64 0, .int .i64 0, .int .i64 0, .int .i64 0, .int .i64 0, .int .i64 0, .int .i64 0, .int .i64 0, .int .i64 0, .int .i64 0, .int .i64 0, .int .i64 0] 45 (0, 0)))).trans (below_of_grown hg7 hb6.size (stepAny hb6 (low_alloc w6 (.cells #[.int .i64 0, .int .i64 0, .int .i64 0, .int .i64 0, .int .i64 0, .int .i64 0, .int .i64 0, .int .i64 0, .int .i64 0, .int .i64 0, .int .i64 0, .int .i64 0, .int .i64 0, .int .i64 0] 45 (0, 0)))).size)
      have hb7 := stepAny hb5 hb67
      have hk75 := HK5.out.below hb67 HK5.out.lt
      obtain ⟨b7, hb7e⟩ : ∃ y, y = w6.heap.size := ⟨_, rfl⟩
      rw [← hb7e] at hk7 ⊢
      have HK7 := Lib.hid hk7
      have HK75 := Lib.hid hk75
      clear hk7 hg7 hb6 hl6 hb7e hb67 hb5 hk75 HK5
      go_upto_region 12 with (go_at_call 16; (with_reducible refine (HUI.out _ hb7).mono ?_); rintro e w8 ⟨rfl, hb8⟩)
      have hl8 := stepAny hb7 hb8
      go_upto_region 13 with (go_at_call 21; (with_reducible refine (HUR.out _ hl8).mono ?_); rintro e w9 ⟨rfl, hb9⟩)
      have hb79 := stepAny hb8 hb9
      have hl9 := stepAny hl8 hb9
      clear hb8 hb9 hl8
      go_upto_region 15 with (first
        | (go_at_call 17; (with_reducible refine (HCI.out _ hl9).mono ?_); rintro e wa ⟨rfl, hba⟩; have hla := stepAny hl9 hba)
        | (go_at_call 22; (with_reducible refine (HCR.out _ hla).mono ?_); rintro e wb ⟨rfl, hbb⟩; have hlb := stepAny hla hbb; have hb7b := stepAny (stepAny hb79 hba) hbb; have hkx := HK75.out.below hb7b HK75.out.lt; have hky := HK7.out.below hb7b HK7.out.lt)
        | (refine wpList_load_if (by rfl) 42 _ rfl b5 0 rfl (ic X) _ hkx.range Try.underlying42 rfl (by rw [ic_len HXN.out]; exact Try.sizeII) ?_)
        | (refine wpList_load_if (by rfl) 45 _ rfl b7 0 rfl (ic X) _ hky.range Try.underlying45 rfl (by rw [ic_len HXN.out]; exact Try.sizeRI) ?_))
      have HEND := Lib.hid hlb
      clear hla hlb hkx hky hba hbb hb7b hb79 hl9 hb7
      go_wp2_with fail
      go_roundw
      case rel => exact ⟨j + 1, by go_num, by omega, stepAny HB3.out HEND.out⟩
      case measure => simp [intOf]; omega
    · have f5 : ¬ (j : Int) < 2 := by omega
      have HB4 := Lib.hid (stepAny HL1.out (stepAny HLD.out hbr))
      clear hbr
      have HFI : Hid (∀ W, Calls Try.prog 23 #[] W fun e w' => ∃ a c, e = .returned (.slice a Nd.format.length c) ∧ Rd eb w' a Nd.format ∧ Below W.heap.size W w') := fun W => (vformat_w W).mono fun e w' h => by
        obtain ⟨v', rfl, hs, hb⟩ := h
        obtain ⟨a, c, rfl, -, -, -, hr⟩ := hs
        exact ⟨a, c, rfl, hr, hb⟩
      have HFR : Hid (∀ W, Calls Try.prog 24 #[] W fun e w' => ∃ a c, e = .returned (.slice a Nd.format.length c) ∧ Rd eb w' a Nd.format ∧ Below W.heap.size W w') := fun W => (rformat_w W).mono fun e w' h => by
        obtain ⟨g, c, rfl, ho, hb⟩ := h
        obtain ⟨a, c, q, -, -, -, hr⟩ := own_sl0 ho Nd.format_len
        rw [q]
        rw [Nd.format_len] at *
        exact ⟨a, c, rfl, hr, hb⟩
      have HCN : Hid (∀ W, Calls Try.prog 17 #[.slice none 0 0] W fun e w' => e = .returned (.int .i64 1) ∧ Below W.heap.size W w') := fun W => vcheck_w (d := []) (Sl.nil _ W) (by decide)
      generalize Nd.format = F at *
      go_upto_region 16 with fail
      clear f5
      go_region_with (first
        | (go_at_call 23; (with_reducible refine (HFI.out _).mono ?_); rintro e wa ⟨aa, ca, rfl, hra, hba⟩; have hca := conv_run wa aa F ca hra)
        | (go_at_call 24; (with_reducible refine (HFR.out _).mono ?_); rintro e wb ⟨ab, cb, rfl, hrb, hbb⟩; have hcb := conv_run wb ab F cb hrb; have hcab := conv_run wb aa F ca (hra.below hbb (Nat.le_refl _)))
        | (go_at_call 17; (with_reducible refine (HCN.out _).mono ?_); rintro e wc ⟨rfl, hbc⟩))
      all_goals
        have hfin : Below w.heap.size w wc := by
          first
            | exact stepAny (stepAny (stepAny HB4.out hba) hbb) hbc
            | exact stepAny (stepAny (stepAny (stepAny HB4.out (low_drew _)) hba) hbb) hbc
      all_goals clear hca hcb hcab hba hbb hbc hra hrb
      all_goals go_wp2_with fail
      all_goals go_ret
      all_goals exact ⟨by first | rfl | (simp; rfl), hfin⟩
end Go.Proofs.Ytbklmpekpcneeaa
namespace Go.Proofs.Ytbklmpekpcneeaa.inodesCheck
open Go.ChangeShapes Go.WideShapes Go.ChangeAt Go.RowKit
set_option linter.unusedVariables false

theorem own : ownKnob Try.prog.godebug = none := by kernel_rfl
theorem laidOut : laidOutB Try.prog = true := by kernel_rfl

set_option maxRecDepth 100000 in
theorem lifted (os : Os) (started : os.Started) (H : Type) (enc : TypeId × Value → H) :
    ReturnsInHanded {} Try.checked os 4 .any (Rows.inodesCheckSpec.pre6 enc Try.prog Try.f4 Rows.inodesCheckRow.domain false) (Rows.inodesCheckSpec.post enc Try.prog Try.f4 false true false false) := by
  refine returnsInHanded_of_change (C := Try.checked) own started (by kernel_rfl) Try.func4
    (ChangeSpec.witness6 (enc := enc) (C := Try.checked) false ⟨#[], #[.slice none 0 0, .agg #[.int .u16 0, .int .u8 0], .int .i64 0], []⟩ 5 (by kernel_rfl) (by kernel_rfl) (by kernel_rfl) (by kernel_rfl)) ?_
  intro W base args ds gs before hval0 hW hcnd _
  have hval : ∀ (j : Nat) t v, Try.f4.params[j]? = some t → args[j]? = some v → Value.okWide Try.prog W .any base t v := hval0
  have hW' := hW
  obtain ⟨p, q, hA0, hV, rfl, hfz, hnd⟩ := hW
  have hA : DataW.TrodAll enc Try.prog W 0 (fun _ => true) true Try.f4.params.toList args.toList ds p := hA0
  rw [Try.params4] at hA hval
  obtain ⟨v0, vs0, d0, ds0, p0, q0, hargs, rfl, rfl, h0, r0⟩ := trodAll_cons hA
  obtain ⟨v1, vs1, d1, ds1, p1, q1, rfl, rfl, rfl, h1, r1⟩ := trodAll_cons r0
  obtain ⟨v2, vs2, d2, ds2, p2, q2, rfl, rfl, rfl, h2, r2⟩ := trodAll_cons r1
  obtain ⟨rfl, rfl, rfl⟩ := trodAll_nil r2
  obtain rfl : args = #[v0, v1, v2] := by cases args; simp_all
  obtain ⟨rfl, rfl⟩ := trodVars_none hV
  have k0 := h0
  have lt0 : ∀ x ∈ p0, x.block < W.heap.size := by obtain ⟨m, hm⟩ := k0; exact DataW.trod_lt m _ _ _ hm
  have o0 := open_ops (hval 0 22 v0 rfl rfl) (Arg.of h0)
  have k1 := h1
  have lt1 : ∀ x ∈ p1, x.block < W.heap.size := by obtain ⟨m, hm⟩ := k1; exact DataW.trod_lt m _ _ _ hm
  have o1 := open_chg (hval 1 37 v1 rfl rfl) (Arg.of h1)
  have k2 := h2
  have lt2 : ∀ x ∈ p2, x.block < W.heap.size := by obtain ⟨m, hm⟩ := k2; exact DataW.trod_lt m _ _ _ hm
  have o2 := open_i64 (hval 2 3 v2 rfl rfl) (Arg.of h2)
  clear hA0 hval0
  refine (lcheck_w o0 o1 o2).mono fun e W' ⟨he, bel⟩ => ?_
  subst he
  exact ⟨_, rfl, _, _, _, [], _, [], hW', trodAll_mk1 (shut_bool Try.underlying4 _), (trodAll_cons_mk (Below.trod laidOut (by kernel_rfl) (of_decide_eq_true (by kernel_rfl)) k0 bel lt0) (trodAll_cons_mk (Below.trod laidOut (by kernel_rfl) (of_decide_eq_true (by kernel_rfl)) k1 bel lt1) (trodAll_cons_mk (Below.trod laidOut (by kernel_rfl) (of_decide_eq_true (by kernel_rfl)) k2 bel lt2) trodAll_mk0))), rfl, bel.frame _, fun h => by cases h⟩

theorem over : Rows.inodesCheckRow.holds Try.pinned (OpenSpec.ofChange Rows.inodesCheckSpec) :=
  OpenClaim.holds_of_wide 4 Try.f4 rfl rfl rfl rfl rfl rfl rfl ⟨rfl, rfl, rfl, rfl, rfl⟩ rfl rfl rfl rfl rfl (by kernel_rfl) Try.func4 (by kernel_rfl)
    (of_decide_eq_true (by kernel_rfl)) (by unfold Func.isWrapper; first | (rw [if_pos (by decide +kernel)]; kernel_rfl) | (rw [if_neg (by decide +kernel)]; exact ⟨rfl, rfl⟩))
    (fun os started H enc _ => lifted os started H enc)

/-- The statement. -/
theorem proved : Rows.InodesCheckSaid := over
#print axioms proved
end Go.Proofs.Ytbklmpekpcneeaa.inodesCheck
