/-
  The walk of the law JournalApply (printed by gen/mk36law.py).
-/
import Derived.Test.YtcbgablnbgpjdaaArgs
import Derived.Test.YtcbgablnbgpjdaaJc
import Derived.Test.YtcbgablnbgpjdaaLw
namespace Go.Proofs.Ytcbgablnbgpjdaa
open Go.RowKit

set_option maxRecDepth 100000 in
set_option maxHeartbeats 8000000 in
theorem lapply_w {v0 v1 v2 : Value} {w : World} (o0 : IsSp w v0) (o1 : IsWrs w v1) (o2 : IsI64 w v2) : Calls Try.prog 5 #[v0, v1, v2] w fun e w' => e = .returned (.bool true) ∧ Below w.heap.size w w' := by
  obtain ⟨⟨bl, seq, lg⟩, u1, u2, rfl, hw1, hw2, hq0, hq1⟩ := o0
  obtain ⟨ls, hw3⟩ := o1
  obtain ⟨m, rfl, hm0, hm1⟩ := o2
  simp only at hw1 hw2 hq0 hq1
  obtain ⟨a1, c1, rfl⟩ := hw1.slice
  obtain ⟨a2, c2, rfl⟩ := hw2.slice
  obtain ⟨W1, hW1⟩ : ∃ W1, W1 = w.alloc (.cells #[.slice a1 bl.length c1, .int .u32 seq, .slice a2 lg.length c2] 25 (0, 0)) := ⟨_, rfl⟩
  have hs1 : W1.heap.size = w.heap.size + 1 := by rw [hW1]; simp
  have hbx : Bk W1 w.heap.size 25 [.slice a1 bl.length c1, .int .u32 seq, .slice a2 lg.length c2] := by rw [hW1]; exact Bk.new w _ [_, _, _]
  have hlow1 : Below w.heap.size w W1 := by rw [hW1]; exact low_alloc _ _
  have HLW : Hid (∀ W, Below W1.heap.size W1 W → Below w.heap.size w W) := fun W hW => stepAny hlow1 hW
  have HFW : Hid (∀ W, Below W1.heap.size W1 W → Calls Try.prog 11 #[.agg #[.slice a1 bl.length c1, .int .u32 seq, .slice a2 lg.length c2]] W fun e w' => e = .returned (.bool (Jr.few (bl, seq, lg))) ∧ Below W.heap.size W w') := fun W hW =>
    few_w ⟨_, _, rfl, hw1.below (HLW.out W hW) (Nat.le_refl _), hw2.below (HLW.out W hW) (Nat.le_refl _), hq0, hq1⟩
  have HFS : Hid (Jr.few (bl, seq, lg) = true → (∀ w ∈ bl, w.2.length ≤ 300) ∧ bl.length ≤ 20 ∧ (∀ w ∈ lg, w.2.length ≤ 300) ∧ lg.length ≤ 20) := fun hf => by
    unfold Jr.few Jr.short at hf
    simp only [Bool.and_eq_true, decide_eq_true_eq] at hf
    exact ⟨hf.1.1, hf.1.2, hf.2.1, hf.2.2⟩
  have HAW := Lib.hid (fun W => awake_w W)
  obtain ⟨a3, c3, rfl⟩ := hw3.slice
  have HSW : Hid (∀ W, Below W1.heap.size W1 W → Calls Try.prog 12 #[.slice a3 ls.length c3] W fun e w' => e = .returned (.bool (Jr.short ls)) ∧ Below W.heap.size W w') := fun W hW => (short_w (hw3.below (HLW.out W hW) (Nat.le_refl _))).mono fun _ _ h => ⟨h.1, h.2 ▸ low_refl W⟩
  have HSS : Hid (Jr.short ls = true → ls.length ≤ 20) := fun hf => by
    unfold Jr.short at hf
    simp only [Bool.and_eq_true, decide_eq_true_eq] at hf
    exact hf.2
  have HU : Hid (∀ W, Below W1.heap.size W1 W → Wp W (.slice a3 ls.length c3) ls) := fun W hW => hw3.below (HLW.out W hW) (Nat.le_refl _)
  have HQ : Hid (∀ W, Below W1.heap.size W1 W → W.cell? ⟨w.heap.size, 0, none⟩ = some (.slice a1 bl.length c1) ∧ W.cell? ⟨w.heap.size, 1, none⟩ = some (.int .u32 seq) ∧ W.cell? ⟨w.heap.size, 2, none⟩ = some (.slice a2 lg.length c2)) := fun W hW => by
    have h := hbx.below hW (by omega)
    exact ⟨h.cell 0, h.cell 1, h.cell 2⟩
  have HDW : Hid (Jr.few (bl, seq, lg) = true → ∀ W, Below W1.heap.size W1 W → Calls Try.prog 13 #[.agg #[.slice a1 bl.length c1, .int .u32 seq, .slice a2 lg.length c2]] W (RetDisk (bl, seq, lg) W)) := fun hf W hW => by
    have h := HFS.out hf
    exact rdisk_w (hw1.below (HLW.out W hW) (Nat.le_refl _)) (hw2.below (HLW.out W hW) (Nat.le_refl _)) hq0 hq1 (by omega) (by omega)
  unfold RetDisk at HDW
  have HDL := Lib.hid (Jr.disk_length (bl, seq, lg))
  generalize Jr.disk (bl, seq, lg) = D at *
  have HW1 := Lib.hid hW1
  clear hw1 hw2 hw3 hbx hlow1 hW1
  go_enter Try.func5, Try.ntmps5
  go_upto_region 1 with fail
  rw [← HW1.out]
  go_upto_region 3 with (go_at_call 10; (with_reducible refine (HAW.out _).mono ?_); rintro e w2 ⟨rfl, hb2⟩)
  obtain ⟨y0, y1, y2⟩ := HQ.out w2 hb2
  have HB2 := Lib.hid hb2
  clear hb2
  cases hf : Jr.few (bl, seq, lg) with
  | false =>
    rw [hf] at HFW
    clear hf
    go_wp2_with (go_at_call 11; (with_reducible refine (HFW.out _ HB2.out).mono ?_); rintro e w3 ⟨rfl, hb3⟩)
    go_ret
    exact ⟨rfl, HLW.out _ (stepAny HB2.out hb3)⟩
  | true =>
    have HDW2 := Lib.hid (HDW.out hf)
    rw [hf] at HFW
    clear hf
    cases hsh : Jr.short ls with
    | false =>
      rw [hsh] at HSW
      clear hsh
      go_wp2_with (first | (go_at_call 11; (with_reducible refine (HFW.out _ HB2.out).mono ?_); rintro e w3 ⟨rfl, hb3⟩) | (go_at_call 12; (with_reducible refine (HSW.out _ (stepAny HB2.out hb3)).mono ?_); rintro e w3' ⟨rfl, hb3'⟩))
      go_ret
      exact ⟨rfl, HLW.out _ (stepAny (stepAny HB2.out hb3) hb3')⟩
    | true =>
      have hl20 := HSS.out hsh
      rw [hsh] at HSW
      clear hsh
      go_upto_region 5 with (first | (go_at_call 11; (with_reducible refine (HFW.out _ HB2.out).mono ?_); rintro e w3 ⟨rfl, hb3⟩) | (go_at_call 12; (with_reducible refine (HSW.out _ (stepAny HB2.out hb3)).mono ?_); rintro e w3' ⟨rfl, hb3'⟩))
      have hb13 := stepAny (stepAny HB2.out hb3) hb3'
      clear y0 y1 y2
      obtain ⟨y0, y1, y2⟩ := HQ.out w3' hb13
      have HB3 := Lib.hid hb13
      clear hb3 hb3' hb13
      go_upto_region 6 with (go_at_call 13; (with_reducible refine (HDW2.out _ HB3.out).mono ?_); rintro e w4 ⟨g, cg, rfl, ho4, hb4⟩)
      have HO4 := Lib.hid ho4
      have HB4 := Lib.hid (stepAny HB3.out hb4)
      clear y0 y1 y2 ho4 hb4
      have HOW := Lib.hid (own_w (HU.out _ HB4.out) (by omega))
      obtain ⟨⟨r, ce⟩, hr⟩ : ∃ x, Jr.apply D ls = x := ⟨_, rfl⟩
      obtain ⟨⟨h9, ge⟩, hr2⟩ : ∃ x, Jr.empty m = x := ⟨_, rfl⟩
      have HR := Lib.hid hr
      have HE1 : Hid (∀ W, Calls Try.prog 25 #[.int .i64 m] W fun e w' => ∃ a k, e = .returned (.tuple #[.slice a h9.length k, .int .i64 ge]) ∧ w'.ownsRow W.heap.size 5 1 (.slice a h9.length k) h9.length (h9.map eb) ∧ Below W.heap.size W w') := fun W => (empty_w m hm0 hm1 W).mono fun _ _ ⟨v, h1, h2, h3⟩ => by
        rw [hr2] at h1 h2
        obtain ⟨a, k, rfl⟩ := own_slice h2
        exact ⟨a, k, h1, h2, h3⟩
      have HE2 : Hid (∀ W, Calls Try.prog 26 #[.int .i64 m] W fun e w' => ∃ a k, e = .returned (.tuple #[.slice a h9.length k, .int .i64 ge]) ∧ w'.ownsRow W.heap.size 5 1 (.slice a h9.length k) h9.length (h9.map eb) ∧ Below W.heap.size W w') := fun W => (rempty_w m hm0 hm1 W).mono fun _ _ ⟨v, h1, h2, h3⟩ => by
        rw [hr2] at h1 h2
        obtain ⟨a, k, rfl⟩ := own_slice h2
        exact ⟨a, k, h1, h2, h3⟩
      clear hr hr2
      obtain ⟨hwg, hcg, hcgm⟩ := (own_bk' HO4.out).2.2.2.elim fun _ _ => (⟨(own_bk' HO4.out).1, (own_bk' HO4.out).2.1, (own_bk' HO4.out).2.2.1⟩ : w3'.heap.size ≤ g ∧ 12288 ≤ cg ∧ cg ≤ maxLen)
      unfold maxLen at hcgm
      have hgl : g < w4.heap.size := (HO4.out.lt g rfl).2
      have HT1 : Hid (∀ W, Below w4.heap.size w4 W → Sl eb W (.slice (some ⟨g, 1, none⟩) 12287 (cg - 1)) ((D.drop 1).take 12287)) := fun W hW => by
        have h := (own_sl HO4.out hW).cut 1 12287 (by omega)
        rw [Nat.zero_add] at h
        exact h
      have HTA : Hid (Jr.apply ((D.drop 1).take 12287) [] = ([], 1)) := if_pos (by rw [List.length_take, List.length_drop, HDL.out]; omega)
      have HRA : Hid (Jr.read (D ++ [0]) = (0, [], 1)) := if_pos (by rw [List.length_append, HDL.out]; simp)
      have f7 : ¬ cg = 1 := by omega
      obtain ⟨i0, hi, hz0, hz1, hz2⟩ := info_parts Try.info5
      go_upto_region 11 with (first
        | (go_at_call 15; (with_reducible refine HOW.out.mono ?_); rintro e w5 ⟨v5, rfl, hl5, hb5⟩)
        | (go_at_call 23; have hx := (japply_w (own_sl HO4.out hb5) hl5.wp (by omega)).mono (fun _ _ h => h.at HR.out); (with_reducible refine hx.mono ?_); clear hx; rintro e w6 ⟨a6, k6, rfl, ho6, hb6⟩; have hb46 := low_trans hb5 hb6)
        | (go_at_call 24; have hx := (rapply_w (own_sl HO4.out hb46) (HU.out _ (stepAny HB4.out hb46)) (by omega)).mono (fun _ _ h => h.at HR.out); (with_reducible refine hx.mono ?_); clear hx; rintro e w7 ⟨a7, k7, rfl, ho7, hb7⟩; have hb47 := low_trans hb46 hb7)
        | (go_at_call 25; (with_reducible refine (HE1.out _).mono ?_); rintro e w8 ⟨a8, k8, rfl, ho8, hb8⟩; have hb48 := low_trans hb47 hb8)
        | (go_at_call 26; (with_reducible refine (HE2.out _).mono ?_); rintro e w9 ⟨a9, k9, rfl, ho9, hb9⟩; have hb49 := low_trans hb48 hb9)
        | (go_at_call 23; have hx := (japply_w (HT1.out _ hb49) Wp.nil (by simp)).mono (fun _ _ h => h.at HTA.out); (with_reducible refine hx.mono ?_); clear hx; rintro e w10 ⟨a10, k10, rfl, ho10, hb10⟩; have hb4x := low_trans hb49 hb10))
      have hs4x := hb4x.size
      have HO6 := Lib.hid (own_base (own_below ho6 (low_trans (low_trans (low_trans hb7 hb8) hb9) hb10)) (show w4.heap.size ≤ _ from hb5.size))
      have HO7 := Lib.hid (own_base (own_below ho7 (low_trans (low_trans hb8 hb9) hb10)) (show w4.heap.size ≤ _ from hb46.size))
      have HO8 := Lib.hid (own_base (own_below ho8 (low_trans hb9 hb10)) (show w4.heap.size ≤ _ from hb47.size))
      have HO9 := Lib.hid (own_base (own_below ho9 hb10) (show w4.heap.size ≤ _ from hb48.size))
      have HOX := Lib.hid (own_below HO4.out hb4x)
      have HBX := Lib.hid (stepAny HB4.out hb4x)
      have HAP : Hid (∀ u (n : Nat × List Value), w10.ownsRow w4.heap.size 5 1 u n.1 n.2 → Apart (.slice (some ⟨g, 0, none⟩) 12288 cg) u) := fun u n ho b h1 h2 => by
        have h3 := (ho.lt b h2).1
        have h4 : some g = some b := h1
        injection h4 with h4
        omega
      clear hl5 hb5 ho6 hb6 hb46 ho7 hb7 hb47 ho8 hb8 hb48 ho9 hb9 hb49 ho10 hb10 hb4x
      go_upto_region 12 with (first
        | (at_builtin; refine wpList_append_sl eb (fun _ => rfl) rfl _ _ 29 rfl w3'.heap.size 5 i0 (.int .u8 0) 1 Try.underlying29 hi hz0 hz1 hz2 rfl (.slice (some ⟨g, 0, none⟩) 12288 cg) 12288 D rfl (own_below HOX.out (low_alloc _ _)) (.slice (some ⟨w10.heap.size, 0, none⟩) 1 1) [0] rfl ⟨_, _, rfl, by simp, by unfold maxLen; omega, by simp, Rd.one eb w10 0 _ _⟩ (by unfold maxLen; simp) (by simp) (by simp; have := HOX.out.lt g rfl; omega) ?_; intro v13 w13 ho13 hs13 hb13)
        | (go_at_call 22; have hx := (jread_w (Sl.ofOwn ho13)).mono (fun _ _ h => h.at HRA.out); (with_reducible refine hx.mono ?_); clear hx; rintro e w14 ⟨a14, k14, rfl, -, hb14⟩))
      have q6 := own_below (own_spare (own_below HO6.out (low_alloc _ _)) (HAP.out _ (_, _) HO6.out) hs13) hb14
      have q7 := own_below (own_spare (own_below HO7.out (low_alloc _ _)) (HAP.out _ (_, _) HO7.out) hs13) hb14
      have q8 := own_below (own_spare (own_below HO8.out (low_alloc _ _)) (HAP.out _ (_, _) HO8.out) hs13) hb14
      have q9 := own_below (own_spare (own_below HO9.out (low_alloc _ _)) (HAP.out _ (_, _) HO9.out) hs13) hb14
      have hc6 := conv_sl (Sl.ofOwn q6)
      have hc7 := conv_sl (Sl.ofOwn q7)
      have hc8 := conv_sl (Sl.ofOwn q8)
      have hc9 := conv_sl (Sl.ofOwn q9)
      have HBZ : Hid (Below w.heap.size w w14) := (((HLW.out _ HBX.out).alloc (HLW.out _ HBX.out).size _).trans (hb13.mono (HLW.out _ HB3.out).size)).trans (hb14.mono (by have := (HLW.out _ HBX.out).size; have := hb13.size; simp at this; omega))
      clear ho13 hs13 hb13 hb14 q6 q7 q8 q9
      go_wp2_with fail
      go_ret
      exact ⟨rfl, HBZ.out⟩
end Go.Proofs.Ytcbgablnbgpjdaa
