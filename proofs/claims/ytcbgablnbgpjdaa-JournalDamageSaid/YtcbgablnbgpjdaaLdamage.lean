/-
  The walk of the law JournalDamage (printed by gen/mk36law.py).
-/
import Derived.Test.YtcbgablnbgpjdaaArgs
import Derived.Test.YtcbgablnbgpjdaaJc
import Derived.Test.YtcbgablnbgpjdaaLw
namespace Go.Proofs.Ytcbgablnbgpjdaa
open Go.RowKit

set_option maxRecDepth 100000 in
set_option maxHeartbeats 8000000 in
theorem ldamage_w {v0 v1 : Value} {w : World} (o0 : IsSp w v0) (o1 : IsChg w v1) : Calls Try.prog 4 #[v0, v1] w fun e w' => e = .returned (.bool true) ∧ Below w.heap.size w w' := by
  obtain ⟨⟨bl, seq, lg⟩, u1, u2, rfl, hw1, hw2, hq0, hq1⟩ := o0
  obtain ⟨n, c, rfl, hn⟩ := o1
  simp only at hw1 hw2 hq0 hq1
  obtain ⟨a1, c1, rfl⟩ := hw1.slice
  obtain ⟨a2, c2, rfl⟩ := hw2.slice
  obtain ⟨W1, hW1⟩ : ∃ W1, W1 = (w.alloc (.cells #[.slice a1 bl.length c1, .int .u32 seq, .slice a2 lg.length c2] 25 (0, 0))).alloc (.cells #[.int .u16 n, eb c] 44 (0, 0)) := ⟨_, rfl⟩
  have hs1 : W1.heap.size = w.heap.size + 2 := by rw [hW1]; simp
  have hbx : Bk W1 w.heap.size 25 [.slice a1 bl.length c1, .int .u32 seq, .slice a2 lg.length c2] := by rw [hW1]; exact (Bk.new w _ [_, _, _]).alloc _
  have hbc : Bk W1 (w.heap.size + 1) 44 [.int .u16 n, eb c] := by rw [hW1]; exact Bk.newAt _ _ [_, _] (by simp)
  have hlow1 : Below w.heap.size w W1 := by rw [hW1]; exact (low_alloc _ _).alloc (by simp) _
  have HLW : Hid (∀ W, Below W1.heap.size W1 W → Below w.heap.size w W) := fun W hW => stepAny hlow1 hW
  have HFW : Hid (∀ W, Below W1.heap.size W1 W → Calls Try.prog 11 #[.agg #[.slice a1 bl.length c1, .int .u32 seq, .slice a2 lg.length c2]] W fun e w' => e = .returned (.bool (Jr.few (bl, seq, lg))) ∧ Below W.heap.size W w') := fun W hW =>
    few_w ⟨_, _, rfl, hw1.below (HLW.out W hW) (Nat.le_refl _), hw2.below (HLW.out W hW) (Nat.le_refl _), hq0, hq1⟩
  have HFS : Hid (Jr.few (bl, seq, lg) = true → (∀ w ∈ bl, w.2.length ≤ 300) ∧ bl.length ≤ 20 ∧ (∀ w ∈ lg, w.2.length ≤ 300) ∧ lg.length ≤ 20) := fun hf => by
    unfold Jr.few Jr.short at hf
    simp only [Bool.and_eq_true, decide_eq_true_eq] at hf
    exact ⟨hf.1.1, hf.1.2, hf.2.1, hf.2.2⟩
  have HAW := Lib.hid (fun W => awake_w W)
  have HQ : Hid (∀ W, Below W1.heap.size W1 W → W.cell? ⟨w.heap.size, 0, none⟩ = some (.slice a1 bl.length c1) ∧ W.cell? ⟨w.heap.size, 1, none⟩ = some (.int .u32 seq) ∧ W.cell? ⟨w.heap.size, 2, none⟩ = some (.slice a2 lg.length c2) ∧ W.cell? ⟨w.heap.size + 1, 0, none⟩ = some (.int .u16 n) ∧ W.cell? ⟨w.heap.size + 1, 1, none⟩ = some (.int .u8 (c.toNat : Int))) := fun W hW => by
    have h := hbx.below hW (by omega)
    have h2 := hbc.below hW (by omega)
    exact ⟨h.cell 0, h.cell 1, h.cell 2, h2.cell 0, h2.cell 1⟩
  have HU1 : Hid (∀ W, Below W1.heap.size W1 W → Wp W (.slice a1 bl.length c1) bl) := fun W hW => hw1.below (HLW.out W hW) (Nat.le_refl _)
  have HU2 : Hid (∀ W, Below W1.heap.size W1 W → Wp W (.slice a2 lg.length c2) lg) := fun W hW => hw2.below (HLW.out W hW) (Nat.le_refl _)
  have HBX := Lib.hid hbx
  have HU1b : Hid (∀ W, Below w.heap.size w W → Wp W (.slice a1 bl.length c1) bl) := fun W hW => hw1.below hW (Nat.le_refl _)
  have HBC := Lib.hid hbc
  have HL1 : Hid (∀ p : Addr, w.heap.size ≤ p.block → ∀ W v, Below w.heap.size w W → Below w.heap.size w (W.setCell p v)) := fun p hp W v hW => hW.setCell hp v
  have HLO := Lib.hid hlow1
  have HW1 := Lib.hid hW1
  clear hw1 hw2 hbx hbc hlow1 hW1
  go_enter Try.func4, Try.ntmps4
  go_upto_region 1 with fail
  rw [← HW1.out]
  go_upto_region 3 with (go_at_call 10; (with_reducible refine (HAW.out _).mono ?_); rintro e w2 ⟨rfl, hb2⟩)
  obtain ⟨y0, y1, y2, y3, y4⟩ := HQ.out w2 hb2
  have HB2 := Lib.hid hb2
  clear hb2
  cases hf : Jr.few (bl, seq, lg) with
  | false =>
    rw [hf] at HFW
    clear hf
    go_wp2_with (go_at_call 11; (with_reducible refine (HFW.out _ HB2.out).mono ?_); rintro e w3 ⟨rfl, hb3⟩)
    go_ret
    exact ⟨rfl, HLW.out _ (stepAny HB2.out hb3)⟩
  | true =>
    have hfs := HFS.out hf
    rw [hf] at HFW
    have HFL : Hid (∀ i (h : i < lg.length), lg[i].2.length ≤ 1000) := fun i h => by have := hfs.2.2.1 _ (List.getElem_mem h); omega
    have hl1 := hfs.2.1
    clear hf hfs
    go_upto_region 5 with (go_at_call 11; (with_reducible refine (HFW.out _ HB2.out).mono ?_); rintro e w3 ⟨rfl, hb3⟩)
    have hb13 := stepAny HB2.out hb3
    have hs13 := hb13.size
    clear y0 y1 y2 y3 y4
    obtain ⟨y0, y1, y2, y3, y4⟩ := HQ.out w3 hb13
    have z2 := ((HBX.out.below hb13 (by omega)).frozen 2)
    have HB3 := Lib.hid hb13
    have HFU := Lib.hid (rfull_w (L := [w.heap.size]) (by simp; omega) (HU2.out w3 hb13) HFL.out)
    have hfl20 : (Jr.full lg).length ≤ 20 := by rw [Jr.full_len]; exact Nat.min_le_left _ _
    clear hb3 hb13
    go_upto_region 6 with (go_at_call 21; (with_reducible refine HFU.out.mono ?_); rintro e w5 ⟨v5, rfl, hl5, hb5⟩; obtain ⟨a5, k5, rfl, -, -⟩ := hl5.slice; obtain ⟨x0, x1, x2, x3, x4⟩ := HQ.out w5 (stepAny HB3.out hb5); have z52 := ((HBX.out.below (stepAny HB3.out hb5) (by omega)).frozen 2))
    have hb15 := stepAny HB3.out hb5
    have hs15 := hb15.size
    have hk5 : Bk (w5.setCell ⟨w.heap.size, 2, none⟩ (.slice a5 (Jr.full lg).length k5)) w.heap.size 25 [.slice a1 bl.length c1, .int .u32 seq, .slice a5 (Jr.full lg).length k5] := (HBX.out.below hb15 (by omega)).set 2 _
    have hc5 : Bk (w5.setCell ⟨w.heap.size, 2, none⟩ (.slice a5 (Jr.full lg).length k5)) (w.heap.size + 1) 44 [.int .u16 n, eb c] := (HBC.out.below hb15 (by omega)).far (p := ⟨w.heap.size, 2, none⟩) (by simp) _
    have hl5' : Wp (w5.setCell ⟨w.heap.size, 2, none⟩ (.slice a5 (Jr.full lg).length k5)) (.slice a5 (Jr.full lg).length k5) (Jr.full lg) := (hl5.set (by simp) (fun e => by have := (hl5.lt _ e).1; omega) 2 _).wp
    have hu5 : Wp (w5.setCell ⟨w.heap.size, 2, none⟩ (.slice a5 (Jr.full lg).length k5)) (.slice a1 bl.length c1) bl := HU1b.out _ (HL1.out ⟨w.heap.size, 2, none⟩ (Nat.le_refl _) w5 _ (HLW.out _ hb15))
    have hlow5 : Below w.heap.size w (w5.setCell ⟨w.heap.size, 2, none⟩ (.slice a5 (Jr.full lg).length k5)) := HL1.out ⟨w.heap.size, 2, none⟩ (Nat.le_refl _) w5 _ (HLW.out _ hb15)
    clear y0 y1 y2 y3 y4 x0 x1 x2 x3 x4 z2 z52 hl5 hb5 hb15
    generalize w5.setCell ⟨w.heap.size, 2, none⟩ (.slice a5 (Jr.full lg).length k5) = W5 at *
    have HQ5 : Hid (∀ W, Below W5.heap.size W5 W → W.cell? ⟨w.heap.size, 0, none⟩ = some (.slice a1 bl.length c1) ∧ W.cell? ⟨w.heap.size, 1, none⟩ = some (.int .u32 seq) ∧ W.cell? ⟨w.heap.size, 2, none⟩ = some (.slice a5 (Jr.full lg).length k5) ∧ W.cell? ⟨w.heap.size + 1, 0, none⟩ = some (.int .u16 n) ∧ W.cell? ⟨w.heap.size + 1, 1, none⟩ = some (.int .u8 (c.toNat : Int))) := fun W hW => by
      have h := hk5.below hW hk5.lt
      have h2 := hc5.below hW hc5.lt
      exact ⟨h.cell 0, h.cell 1, h.cell 2, h2.cell 0, h2.cell 1⟩
    have HDW : Hid (∀ W, Below W5.heap.size W5 W → Calls Try.prog 13 #[.agg #[.slice a1 bl.length c1, .int .u32 seq, .slice a5 (Jr.full lg).length k5]] W (RetDisk (bl, seq, Jr.full lg) W)) := fun W hW => rdisk_w (hu5.below hW (Nat.le_refl _)) (hl5'.below hW (Nat.le_refl _)) hq0 hq1 (by omega) (by omega)
    unfold RetDisk at HDW
    have HUF : Hid (∀ W, Below W5.heap.size W5 W → Wp W (.slice a5 (Jr.full lg).length k5) (Jr.full lg)) := fun W hW => hl5'.below hW (Nat.le_refl _)
    have HDL := Lib.hid (Jr.disk_length (bl, seq, Jr.full lg))
    have HRD := Lib.hid (Jr.read_disk (bl, seq, Jr.full lg) hq0 hq1)
    have HLOG : Hid (Jr.logOf (bl, seq, Jr.full lg) = if Jr.valid (Jr.full lg) = true then Jr.full lg else []) := rfl
    simp only at HRD
    have HLOW5 := Lib.hid hlow5
    generalize Jr.disk (bl, seq, Jr.full lg) = D at *
    generalize Jr.logOf (bl, seq, Jr.full lg) = lo at *
    clear hk5 hc5 hl5' hu5 hlow5
    obtain ⟨y0, y1, y2, y3, y4⟩ := HQ5.out W5 (low_refl _)
    have HVF := Lib.hid (rvalid_w (HUF.out W5 (low_refl _)) (by omega))
    cases hval : Jr.valid (Jr.full lg) with
    | false =>
      rw [hval] at HVF
      clear hval
      go_wp2_with (go_at_call 20; (with_reducible refine HVF.out.mono ?_); rintro e w6 ⟨rfl, hb6⟩)
      go_ret
      exact ⟨rfl, stepAny HLOW5.out hb6⟩
    | true =>
      have hlo : lo = Jr.full lg := HLOG.out.trans (if_pos hval)
      have HRD2 : Hid (Jr.read D = (seq, Jr.full lg, 0)) := by show _ = _; rw [← hlo]; exact HRD.out
      have HNE : Hid (Jr.full lg ≠ []) := Jr.valid_ne hval
      rw [hval] at HVF
      clear hval hlo
      go_upto_region 8 with (go_at_call 20; (with_reducible refine HVF.out.mono ?_); rintro e w6 ⟨rfl, hb6⟩)
      obtain ⟨x0, x1, x2, x3, x4⟩ := HQ5.out w6 hb6
      have HB6 := Lib.hid hb6
      clear y0 y1 y2 y3 y4 hb6
      go_upto_region 9 with (go_at_call 13; (with_reducible refine (HDW.out _ HB6.out).mono ?_); rintro e w7 ⟨g, cg, rfl, ho7, hb7⟩)
      have hb57 := stepAny HB6.out hb7
      clear x0 x1 x2 x3 x4
      obtain ⟨y0, y1, y2, y3, y4⟩ := HQ5.out w7 hb57
      obtain ⟨z0, z1, z2, z3, z4⟩ := HQ5.out w7.drew hb57.drew
      have HLOW7 := Lib.hid (stepAny HLOW5.out hb57)
      have HO7 := Lib.hid ho7
      have HGB : Hid (w.heap.size ≤ g) := Nat.le_trans (stepAny HLOW5.out HB6.out).size (ho7.lt g rfl).1
      clear hb7 hb57 ho7
      obtain ⟨p, hp⟩ : ∃ p, n % 1436 = p := ⟨_, rfl⟩
      have hpl : p < 1436 := by omega
      have hw : IntKind.i64.wrap (n : Int) = (n : Int) := IntWalk.i64_in _ (by omega)
      have hrem : ((n : Int) % 1436) = (p : Int) := by omega
      clear hp
      have hat : ∃ i, ((128 ≤ i ∧ i < 156) ∨ (256 ≤ i ∧ i < 1664)) ∧ ((p < 28 ∧ i = p + 128) ∨ (28 ≤ p ∧ i = p + 100 + 128)) := by
        by_cases h : p < 28
        · exact ⟨p + 128, .inl ⟨by omega, by omega⟩, .inl ⟨h, rfl⟩⟩
        · exact ⟨p + 100 + 128, .inr ⟨by omega, by omega⟩, .inr ⟨by omega, rfl⟩⟩
      obtain ⟨i, hi, hpi⟩ := hat
      have HI := Lib.hid hi
      have hil : i < D.length := by rw [HDL.out]; omega
      obtain ⟨hcell, hfr⟩ := own_cell8 HO7.out hil HDL.out
      have hcelld : w7.drew.cell? ⟨g, i, none⟩ = some (eb D[i]) := hcell
      have hfrd : w7.drew.frozen? ⟨g, i, none⟩ = false := hfr
      unfold eb at hcell hcelld
      have HDM : Hid (D[i] ≠ c → ∃ e, Jr.read (D.set i c) = (0, [], e) ∧ e ≠ 0) := fun h => Jr.damage HRD2.out HNE.out i hi c hil h
      have HOS : Hid ((w7.setCell ⟨g, i, none⟩ (eb c)).drew.ownsRow w6.heap.size 5 1 (.slice (some ⟨g, 0, none⟩) 12288 cg) 12288 ((D.set i c).map eb)) := own_below (own_store8 HO7.out) (low_drew _)
      have HBS : Hid (Below w.heap.size w (w7.setCell ⟨g, i, none⟩ (eb c)).drew) := (HLOW7.out.setCell (p := ⟨g, i, none⟩) HGB.out _).drew
      have hi12 : i < 12288 := by rw [HDL.out] at hil; exact hil
      generalize D[i] = old at *
      clear hil hi
      rcases hpi with ⟨h28, rfl⟩ | ⟨h28, rfl⟩
      all_goals
        by_cases he : old = c
        · subst he
          go_upto_region 13 with fail
          go_region
          all_goals
            go_wp2_with fail
            go_ret
            exact ⟨rfl, HLOW7.out.drew⟩
        · have hq1' := eb_ne he
          have hq2' := eb_ne' he
          obtain ⟨ec, hre, hne⟩ := HDM.out he
          have HRE := Lib.hid hre
          have hnq : (ec != 0) = true := by simp [hne]
          clear hre hne he
          go_upto_region 13 with fail
          go_region
          all_goals
            go_upto_region 16 with fail
            have hos := HOS.out
            have hbs := HBS.out
            unfold eb at hos hbs
            have HOS2 := Lib.hid hos
            have HBS2 := Lib.hid hbs
            clear hos hbs
            go_wp2_with (go_at_call 22; have hx := (jread_w (Sl.ofOwn HOS2.out)).mono (fun _ _ h => h.at HRE.out); (with_reducible refine hx.mono ?_); clear hx; rintro e w9 ⟨a9, k9, rfl, -, hb9⟩)
            go_ret
            refine ⟨?_, stepAny HBS2.out hb9⟩
            show _ = _
            rfl
end Go.Proofs.Ytcbgablnbgpjdaa
