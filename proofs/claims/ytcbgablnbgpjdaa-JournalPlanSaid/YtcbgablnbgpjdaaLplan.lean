/-
  The walk of the law JournalPlan (printed by gen/mk36law.py).
-/
import Derived.Test.YtcbgablnbgpjdaaArgs
import Derived.Test.YtcbgablnbgpjdaaJc
import Derived.Test.YtcbgablnbgpjdaaLread
namespace Go.Proofs.Ytcbgablnbgpjdaa
open Go.RowKit
theorem Jr.plan_len (d : List UInt8) (l : List Jr.Wr) : (Jr.plan d l).1.length ≤ 100 ∧ (Jr.plan d l).2.1.length ≤ 100 := by
  unfold Jr.plan
  split
  · simp
  · split
    · simp
    · rename_i h1 h2
      have hv : Jr.valid l = true := by simpa using h2
      have := (Jr.valid_all hv).2.2.2
      split
      · simp
      · split
        · simp
        · constructor
          · simp [Jr.logs_len]; omega
          · unfold Jr.homes; simp; omega

set_option maxRecDepth 100000 in
set_option maxHeartbeats 8000000 in
theorem lplan_w {v0 v1 : Value} {w : World} (o0 : IsSp w v0) (o1 : IsWrs w v1) : Calls Try.prog 3 #[v0, v1] w fun e w' => e = .returned (.bool true) ∧ Below w.heap.size w w' := by
  obtain ⟨⟨bl, seq, lg⟩, u1, u2, rfl, hw1, hw2, hq0, hq1⟩ := o0
  obtain ⟨ls, hw3⟩ := o1
  simp only at hw1 hw2 hq0 hq1
  obtain ⟨a1, c1, rfl⟩ := hw1.slice
  obtain ⟨a2, c2, rfl⟩ := hw2.slice
  obtain ⟨W1, hW1⟩ : ∃ W1, W1 = w.alloc (.cells #[.slice a1 bl.length c1, .int .u32 seq, .slice a2 lg.length c2] 25 (0, 0)) := ⟨_, rfl⟩
  have hs1 : W1.heap.size = w.heap.size + 1 := by rw [hW1]; simp
  have hbx : Bk W1 w.heap.size 25 [.slice a1 bl.length c1, .int .u32 seq, .slice a2 lg.length c2] := by rw [hW1]; exact Bk.new w _ [_, _, _]
  have hlow1 : Below w.heap.size w W1 := by rw [hW1]; exact low_alloc _ _
  have HLW : Hid (∀ W, Below W1.heap.size W1 W → Below w.heap.size w W) := fun W hW => stepAny hlow1 hW
  have HFW : Hid (∀ W, Below W1.heap.size W1 W → Calls Try.prog 11 #[.agg #[.slice a1 bl.length c1, .int .u32 seq, .slice a2 lg.length c2]] W fun e w' => e = .returned (.bool (Jr.few (bl, seq, lg))) ∧ Below W.heap.size W w') := fun W hW =>
    few_w ⟨_, _, rfl, hw1.below (HLW.out W hW) (Nat.le_refl _), hw2.below (HLW.out W hW) (Nat.le_refl _), hq0, hq1⟩
  have HFS : Hid (Jr.few (bl, seq, lg) = true → (∀ w ∈ bl, w.2.length ≤ 300) ∧ bl.length ≤ 20 ∧ (∀ w ∈ lg, w.2.length ≤ 300) ∧ lg.length ≤ 20) := fun hf => by
    unfold Jr.few Jr.short at hf
    simp only [Bool.and_eq_true, decide_eq_true_eq] at hf
    exact ⟨hf.1.1, hf.1.2, hf.2.1, hf.2.2⟩
  have HAW := Lib.hid (fun W => awake_w W)
  obtain ⟨a3, c3, rfl⟩ := hw3.slice
  have HSW : Hid (∀ W, Below W1.heap.size W1 W → Calls Try.prog 12 #[.slice a3 ls.length c3] W fun e w' => e = .returned (.bool (Jr.short ls)) ∧ Below W.heap.size W w') := fun W hW => (short_w (hw3.below (HLW.out W hW) (Nat.le_refl _))).mono fun _ _ h => ⟨h.1, h.2 ▸ low_refl W⟩
  have HSS : Hid (Jr.short ls = true → ls.length ≤ 20) := fun hf => by
    unfold Jr.short at hf
    simp only [Bool.and_eq_true, decide_eq_true_eq] at hf
    exact hf.2
  have HU : Hid (∀ W, Below W1.heap.size W1 W → Wp W (.slice a3 ls.length c3) ls) := fun W hW => hw3.below (HLW.out W hW) (Nat.le_refl _)
  have HQ : Hid (∀ W, Below W1.heap.size W1 W → W.cell? ⟨w.heap.size, 0, none⟩ = some (.slice a1 bl.length c1) ∧ W.cell? ⟨w.heap.size, 1, none⟩ = some (.int .u32 seq) ∧ W.cell? ⟨w.heap.size, 2, none⟩ = some (.slice a2 lg.length c2)) := fun W hW => by
    have h := hbx.below hW (by omega)
    exact ⟨h.cell 0, h.cell 1, h.cell 2⟩
  have HDW : Hid (Jr.few (bl, seq, lg) = true → ∀ W, Below W1.heap.size W1 W → Calls Try.prog 13 #[.agg #[.slice a1 bl.length c1, .int .u32 seq, .slice a2 lg.length c2]] W (RetDisk (bl, seq, lg) W)) := fun hf W hW => by
    have h := HFS.out hf
    exact rdisk_w (hw1.below (HLW.out W hW) (Nat.le_refl _)) (hw2.below (HLW.out W hW) (Nat.le_refl _)) hq0 hq1 (by omega) (by omega)
  unfold RetDisk at HDW
  have HDL := Lib.hid (Jr.disk_length (bl, seq, lg))
  generalize Jr.disk (bl, seq, lg) = D at *
  have HW1 := Lib.hid hW1
  clear hw1 hw2 hw3 hbx hlow1 hW1
  go_enter Try.func3, Try.ntmps3
  go_upto_region 1 with fail
  rw [← HW1.out]
  go_upto_region 3 with (go_at_call 10; (with_reducible refine (HAW.out _).mono ?_); rintro e w2 ⟨rfl, hb2⟩)
  obtain ⟨y0, y1, y2⟩ := HQ.out w2 hb2
  have HB2 := Lib.hid hb2
  clear hb2
  cases hf : Jr.few (bl, seq, lg) with
  | false =>
    rw [hf] at HFW
    clear hf
    go_wp2_with (go_at_call 11; (with_reducible refine (HFW.out _ HB2.out).mono ?_); rintro e w3 ⟨rfl, hb3⟩)
    go_ret
    exact ⟨rfl, HLW.out _ (stepAny HB2.out hb3)⟩
  | true =>
    have HDW2 := Lib.hid (HDW.out hf)
    rw [hf] at HFW
    clear hf
    cases hsh : Jr.short ls with
    | false =>
      rw [hsh] at HSW
      clear hsh
      go_wp2_with (first | (go_at_call 11; (with_reducible refine (HFW.out _ HB2.out).mono ?_); rintro e w3 ⟨rfl, hb3⟩) | (go_at_call 12; (with_reducible refine (HSW.out _ (stepAny HB2.out hb3)).mono ?_); rintro e w3' ⟨rfl, hb3'⟩))
      go_ret
      exact ⟨rfl, HLW.out _ (stepAny (stepAny HB2.out hb3) hb3')⟩
    | true =>
      have hl20 := HSS.out hsh
      rw [hsh] at HSW
      clear hsh
      go_upto_region 5 with (first | (go_at_call 11; (with_reducible refine (HFW.out _ HB2.out).mono ?_); rintro e w3 ⟨rfl, hb3⟩) | (go_at_call 12; (with_reducible refine (HSW.out _ (stepAny HB2.out hb3)).mono ?_); rintro e w3' ⟨rfl, hb3'⟩))
      have hb13 := stepAny (stepAny HB2.out hb3) hb3'
      clear y0 y1 y2
      obtain ⟨y0, y1, y2⟩ := HQ.out w3' hb13
      have HB3 := Lib.hid hb13
      clear hb3 hb3' hb13
      go_upto_region 6 with (go_at_call 13; (with_reducible refine (HDW2.out _ HB3.out).mono ?_); rintro e w4 ⟨g, cg, rfl, ho4, hb4⟩)
      have HO4 := Lib.hid ho4
      have HB4 := Lib.hid (stepAny HB3.out hb4)
      clear y0 y1 y2 ho4 hb4
      have HOW := Lib.hid (own_w (HU.out _ HB4.out) (by omega))
      have HOW2 : Hid (∀ W, Below W1.heap.size W1 W → Calls Try.prog 15 #[.slice a3 ls.length c3] W fun e w' => ∃ v', e = .returned v' ∧ Wo W.heap.size 63 [] w' v' ls ∧ Below W.heap.size W w') := fun W hW => own_w (HU.out _ hW) (by omega)
      obtain ⟨⟨p, q, ce⟩, hr⟩ : ∃ x, Jr.plan D ls = x := ⟨_, rfl⟩
      have HR := Lib.hid hr
      have HPN := Lib.hid (Jr.plan_len D ls)
      rw [hr] at HPN
      clear hr
      go_upto_region 8 with (first
        | (go_at_call 15; (with_reducible refine HOW.out.mono ?_); rintro e w5 ⟨v5, rfl, hl5, hb5⟩)
        | (go_at_call 14; have hx := (jplan_w (own_sl HO4.out hb5) hl5.wp (by omega)).mono (fun _ _ h => h.at HR.out); (with_reducible refine hx.mono ?_); clear hx; rintro e w6 ⟨a6, k6, a7, k7, rfl, hp6, hp7, hb6⟩; have hb46 := low_trans hb5 hb6)
        | (go_at_call 16; have hx := (rplan_w (own_sl HO4.out hb46) (HU.out _ (stepAny HB4.out hb46)) (by omega)).mono (fun _ _ h => h.at HR.out); (with_reducible refine hx.mono ?_); clear hx; rintro e w8 ⟨a8, k8, a9, k9, rfl, hp8, hp9, hb8⟩; have hb48 := low_trans hb46 hb8))
      have HP6 := Lib.hid (hp6.below hb8 (Nat.le_refl _))
      have HP7 := Lib.hid (hp7.below hb8 (Nat.le_refl _))
      have HP8 := Lib.hid hp8
      have HP9 := Lib.hid hp9
      have HB8 := Lib.hid (stepAny HB4.out hb48)
      clear hl5 hb5 hp6 hp7 hb6 hb46 hp8 hp9 hb8 hb48
      go_wp2_with (first
        | (go_at_call 18; have hx := from_w HP6.out (by have := HPN.out; omega); (with_reducible refine hx.mono ?_); clear hx; rintro e x1 ⟨u1, rfl, hx1, hc1⟩)
        | (go_at_call 17; have hx := rsame_t hx1.wp (HP8.out.below hc1 (Nat.le_refl _)); (with_reducible refine hx.mono ?_); clear hx; rintro e x2 ⟨rfl, hc2⟩; have hc02 := low_trans hc1 hc2)
        | (go_at_call 18; have hx := from_w (HP7.out.below hc02 (Nat.le_refl _)) (by have := HPN.out; omega); (with_reducible refine hx.mono ?_); clear hx; rintro e x3 ⟨u3, rfl, hx3, hc3⟩; have hc03 := low_trans hc02 hc3)
        | (go_at_call 17; have hx := rsame_t hx3.wp (HP9.out.below hc03 (Nat.le_refl _)); (with_reducible refine hx.mono ?_); clear hx; rintro e x4 ⟨rfl, hc4⟩; have hc04 := low_trans hc03 hc4)
        | (go_at_call 15; have hx := HOW2.out _ (stepAny HB8.out hc04); (with_reducible refine hx.mono ?_); clear hx; rintro e x5 ⟨u5, rfl, hx5, hc5⟩; have hc05 := low_trans hc04 hc5)
        | (go_at_call 19; have hx := jvalid_w hx5.wp (by omega); (with_reducible refine hx.mono ?_); clear hx; rintro e x6 ⟨rfl, hc6⟩; have hc06 := low_trans hc05 hc6)
        | (go_at_call 20; have hx := rvalid_w (HU.out _ (stepAny HB8.out hc06)) (by omega); (with_reducible refine hx.mono ?_); clear hx; rintro e x7 ⟨rfl, hc7⟩; have hc07 := low_trans hc06 hc7))
      go_ret
      exact ⟨rfl, HLW.out _ (stepAny HB8.out hc07)⟩
end Go.Proofs.Ytcbgablnbgpjdaa
