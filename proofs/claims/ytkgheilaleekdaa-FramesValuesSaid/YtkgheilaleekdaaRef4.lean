/-
  The walks of the reference's Copy.
-/
import Derived.Test.YtkgheilaleekdaaRef3
namespace Go.Proofs.Ytkgheilaleekdaa
open Go.RowKit

set_option maxHeartbeats 1600000 in
theorem rcopy_w {v : Value} {ps : List (List UInt8)} {w : World} {A : Nat → Prop} (to fr : Int) (hva : Pa A w v ps) (hA : ∀ b, A b → b < w.heap.size) :
    Calls Try.prog 31 #[.agg #[v], .int .i64 to, .int .i64 fr] w (RPost w A (Fr.copy ps to fr)) := by
  have hv := hva.pg
  have HC : Hid (∀ w', Below w.heap.size w w' → Calls Try.prog 16 #[.agg #[v]] w' fun e w'' => e = .returned (.bool (Fr.valid ps)) ∧ Below w'.heap.size w' w'') := fun w' hb => rvalid_w (hv.below hb (Nat.le_refl _))
  have hB : Below w.heap.size w ((w.alloc (.cells #[v] 24 (0, 0))).alloc (.cells #[.slice none 0 0] 24 (0, 0))) := ((Below.refl _ _).alloc (Nat.le_refl _) _).alloc (by simp) _
  have HF := Lib.hid (fun f W => rframe_w f W)
  cases hvl : Fr.valid ps with
  | false =>
    have HE : Hid (Fr.copy ps to fr = ([], 1)) := by show _ = _; unfold Fr.copy; rw [hvl]; rfl
    rw [hvl] at HC
    obtain ⟨a, cap, rfl, -⟩ := hv.open
    clear hvl hv hva HF
    go_enter Try.func31, Try.ntmps31
    go_wp2_with (go_at_call 16; refine (HC.out _ hB).mono ?_; rintro e w1 ⟨rfl, hb1⟩; obtain ⟨hbw1, k1, k2⟩ := boxes2 hb1; have z2 := (hb1.frozen (p := ⟨w.heap.size + 1, 0, none⟩) (by simp)).trans (frozen_of_row _ _ 0 #[.slice none 0 0] 24 (Bk.newAt _ _ [.slice none 0 0] (by simp))))
    refine bodyPost_ret (v := .tuple #[.agg #[.slice none 0 0], .int .i64 1]) (by simp [results, Try.results31, go_sem, k2]) rfl ?_
    rw [HE.out]
    exact ⟨_, _, _, rfl, Pa.nil _ _, hbw1.setCell (by simp) _⟩
  | true =>
    rw [hvl] at HC
    by_cases hr : 0 ≤ to ∧ to < 96 ∧ 0 ≤ fr ∧ fr < 96
    · obtain ⟨r1, r2, r3, r4⟩ := hr
      have HE : Hid (Fr.copy ps to fr = (ps.set to.toNat (Fr.page ps fr), 0)) := by show _ = _; unfold Fr.copy; rw [if_pos hvl, if_pos ⟨r1, r2, r3, r4⟩]
      have HF1 : Hid (∀ W, Calls Try.prog 43 #[.int .i64 to] W fun e w' => e = .returned (.bool true) ∧ W = w') := fun W => by
        have := HF.out to W; rw [decide_eq_true ⟨r1, r2⟩] at this; exact this
      have HF2 : Hid (∀ W, Calls Try.prog 43 #[.int .i64 fr] W fun e w' => e = .returned (.bool true) ∧ W = w') := fun W => by
        have := HF.out fr W; rw [decide_eq_true ⟨r3, r4⟩] at this; exact this
      obtain ⟨hl, hpl⟩ := Fr.valid_iff.1 hvl
      obtain ⟨T, rfl⟩ := Int.eq_ofNat_of_zero_le r1
      obtain ⟨F, rfl⟩ := Int.eq_ofNat_of_zero_le r3
      have hT96 : T < 96 := by omega
      have hFp : F < ps.length := by omega
      have HW := Lib.hid (fun w' (hb : Below w.heap.size w w') vp p (hp : Sl eb w' vp p) B (hpB : inA (fun b => B ≤ b ∧ b < w'.heap.size) vp) => with_w (A := fun b => A b ∨ (B ≤ b ∧ b < w'.heap.size)) T ((hva.below hb (Nat.le_refl _)).mono fun _ h => .inl h) hp (hpB.mono fun _ h => .inr h) hl hT96)
      obtain ⟨a, cap, rfl, hcc, hcm, hna, -⟩ := hv.open
      obtain ⟨b, off, a', c', rfl, hbb, hck, p1, p2, p3, p4⟩ := hv.el F hFp
      have HPG : Hid (Fr.page ps F = ps[F]) := by show _ = _; simp [Fr.page, List.getD, hFp]
      have hpl' := hpl F hFp
      rw [hpl'] at hck p1
      generalize ps[F] = pg at *
      have HPL := Lib.hid hpl'
      rw [hl] at HC HW hB ⊢
      obtain ⟨i0, hi, hz0, hz1, hz2⟩ := info_parts Try.info5
      unfold maxLen at hcm p2
      have HAA := Lib.hid hA
      have H4 := Lib.hid p4
      clear hva hpl hpl' hvl hl hv hA HF p4
      have f1 : (0 : Int) ≤ (F : Int) := by omega
      have f2 : (F : Int) < 96 := by omega
      go_enter Try.func31, Try.ntmps31
      go_wp2_with (first
        | (go_at_call 16; refine (HC.out _ hB).mono ?_; rintro e w1 ⟨rfl, hb1⟩; obtain ⟨hbw1, k1, k2⟩ := boxes2 hb1; have B1 : Bk w1 (w.heap.size + 1) 24 [.slice none 0 0] := ((Bk.newAt _ _ [_] (by simp)).below hb1 (by simp)))
        | (go_at_call 43; (first | refine (HF1.out _).mono ?_ | refine (HF2.out _).mono ?_); rintro e w' ⟨rfl, rfl⟩))
      have hs1 : w.heap.size + 2 ≤ w1.heap.size := by have := hb1.size; simp at this; omega
      have hck1 := (hbw1.cell (p := ⟨b, off + F, none⟩) hbb).trans hck
      have hb10 : Below w.heap.size w (w1.alloc (.cells #[] 5 (0, 0))).drew := (hbw1.alloc hbw1.size _).drew
      have hb11 : Below w1.heap.size w1 (w1.alloc (.cells #[] 5 (0, 0))).drew := ((Below.refl _ _).alloc (Nat.le_refl _) _).drew
      have HO : Hid ((w1.alloc (.cells #[] 5 (0, 0))).drew.ownsRow w1.heap.size 5 1 (.slice (some ⟨w1.heap.size, 0, none⟩) 0 0) 0 []) := (own_empty (Bk.newAt w1 _ [] rfl) (Nat.le_refl _)).drew
      have hbs : b < w1.heap.size := by have := hbw1.size; omega
      have hn0 : w.heap.size < w1.heap.size := by omega
      have k1d : w1.drew.cell? ⟨w.heap.size, 0, none⟩ = some (.slice (some ⟨b, off, none⟩) 96 cap) := k1
      have hckd : w1.drew.cell? ⟨b, off + F, none⟩ = some (.slice a' 128 c') := hck1
      have kA : (w1.alloc (.cells #[] 5 (0, 0))).drew.cell? ⟨w.heap.size, 0, none⟩ = some (.slice (some ⟨b, off, none⟩) 96 cap) := (World.cell?_alloc_lt _ _ _ hn0).trans k1
      have ckA : (w1.alloc (.cells #[] 5 (0, 0))).drew.cell? ⟨b, off + F, none⟩ = some (.slice a' 128 c') := (World.cell?_alloc_lt _ _ _ hbs).trans hck1
      have n1 : b ≠ w.heap.size + 1 := by omega
      have n2 : w.heap.size + 1 ≠ b := by omega
      have g2 : 0 + 128 ≤ maxLen := by unfold maxLen; omega
      have g3 : (0 + 128) * 1 ≤ 140737488355328 := by omega
      go_region_held3 (fun w' => w'.cell? ⟨w.heap.size, 0, none⟩ = some (.slice (some ⟨b, off, none⟩) 96 cap) ∧ w'.cell? ⟨b, off + F, none⟩ = some (.slice a' 128 c')) (first | go_keep | exact ⟨by assumption, by assumption⟩) ((first
        | (refine step_append_rd eb (fun _ => rfl) rfl (.tmp 23) (.tmp 28) 27 (by rfl) w1.heap.size 5 i0 (.int .u8 0) 1 Try.underlying27 hi hz0 hz1 hz2 rfl _ 0 [] (by rfl) HO.out a' c' pg 128 (by rfl) HPL.out p3 p1 (H4.out.below hb10 (Nat.le_refl _)) g2 g3 hb11.size ?_; intro v2 w2 ho2 hs2 hb2; have q1 := (hb2.cell (p := ⟨w.heap.size, 0, none⟩) hn0).trans kA; have q2 := (hb2.cell (p := ⟨b, off + F, none⟩) hbs).trans ckA; have hbw2 := hb10.trans (hb2.mono hbw1.size); have m1 := Nat.lt_of_lt_of_le hn0 (Nat.le_trans hb11.size hb2.size); have m2 := Nat.lt_of_lt_of_le hbs (Nat.le_trans hb11.size hb2.size); have HI2 := Lib.hid (inA.own ho2); have HS2 := Lib.hid (Sl.ofOwn ho2); clear ho2)
        | (go_at_call 36; refine (HW.out w2 hbw2 v2 _ HS2.out w1.heap.size HI2.out).mono ?_; rintro e w5 ⟨a5, n5, c5, rfl, hp5, hb5⟩; have HP5 := Lib.hid hp5; clear hp5; have B15 := (B1.below (hb11.trans hb2) B1.lt).below hb5 (Nat.lt_of_lt_of_le B1.lt (Nat.le_trans hb11.size hb2.size)); have k5 := B15.cell 0; have z5 := B15.frozen 0; simp only [List.getElem?_cons_zero] at k5; have q3 := (hb5.cell (p := ⟨w.heap.size, 0, none⟩) m1).trans q1; have q4 := (hb5.cell (p := ⟨b, off + F, none⟩) m2).trans q2)))
      have hbw5 := hbw2.trans (hb5.mono hbw2.size)
      have hs5 := hb5.size
      have hs2 := Nat.le_trans hb11.size hb2.size
      go_wp2
      refine bodyPost_ret (v := .tuple #[.agg #[.slice a5 n5 c5], .int .i64 0]) (by simp [results, Try.results31, go_sem, k5]) rfl ?_
      rw [HE.out]
      simp only [Int.toNat_natCast]
      rw [HPG.out]
      refine ⟨_, _, _, rfl, (HP5.out.keep fun b hb _ => Below.heap_setCell _ _ _ _ (by
        rintro rfl
        rcases hb with (h | h) | h
        · have := HAA.out _ h; simp at this; omega
        · simp at h; omega
        · simp at h; omega)).mono fun b hb => ?_, hbw5.setCell (by simp) _⟩
      show A b ∨ (w.heap.size ≤ b ∧ b < (w5.setCell _ _).heap.size)
      have hsz : (w5.setCell ⟨w.heap.size + 1, 0, none⟩ (.slice a5 n5 c5)).heap.size = w5.heap.size := by simp
      rw [hsz]
      rcases hb with (h | h) | h
      · exact .inl h
      · exact .inr ⟨by omega, by omega⟩
      · exact .inr ⟨by omega, by omega⟩
    · have HE : Hid (Fr.copy ps to fr = ([], 2)) := by show _ = _; unfold Fr.copy; rw [if_pos hvl, if_neg hr]
      obtain ⟨a, cap, rfl, -⟩ := hv.open
      by_cases ht : 0 ≤ to ∧ to < 96
      · have hf : ¬ (0 ≤ fr ∧ fr < 96) := fun h => hr ⟨ht.1, ht.2, h.1, h.2⟩
        have HF1 : Hid (∀ W, Calls Try.prog 43 #[.int .i64 to] W fun e w' => e = .returned (.bool true) ∧ W = w') := fun W => by
          have := HF.out to W; rw [decide_eq_true ht] at this; exact this
        have HF2 : Hid (∀ W, Calls Try.prog 43 #[.int .i64 fr] W fun e w' => e = .returned (.bool false) ∧ W = w') := fun W => by
          have := HF.out fr W; rw [decide_eq_false hf] at this; exact this
        clear hvl hv hva HF hr ht hf
        go_enter Try.func31, Try.ntmps31
        go_wp2_with (first
          | (go_at_call 16; refine (HC.out _ hB).mono ?_; rintro e w1 ⟨rfl, hb1⟩; obtain ⟨hbw1, k1, k2⟩ := boxes2 hb1; have z2 := (hb1.frozen (p := ⟨w.heap.size + 1, 0, none⟩) (by simp)).trans (frozen_of_row _ _ 0 #[.slice none 0 0] 24 (Bk.newAt _ _ [.slice none 0 0] (by simp))))
          | (go_at_call 43; (first | with_reducible refine (HF1.out _).mono ?_ | with_reducible refine (HF2.out _).mono ?_); rintro e w' ⟨rfl, rfl⟩))
        refine bodyPost_ret (v := .tuple #[.agg #[.slice none 0 0], .int .i64 2]) (by simp [results, Try.results31, go_sem, k2]) rfl ?_
        rw [HE.out]
        exact ⟨_, _, _, rfl, Pa.nil _ _, hbw1.setCell (by simp) _⟩
      · have HF1 : Hid (∀ W, Calls Try.prog 43 #[.int .i64 to] W fun e w' => e = .returned (.bool false) ∧ W = w') := fun W => by
          have := HF.out to W; rw [decide_eq_false ht] at this; exact this
        clear hvl hv hva HF hr ht
        go_enter Try.func31, Try.ntmps31
        go_wp2_with (first
          | (go_at_call 16; refine (HC.out _ hB).mono ?_; rintro e w1 ⟨rfl, hb1⟩; obtain ⟨hbw1, k1, k2⟩ := boxes2 hb1; have z2 := (hb1.frozen (p := ⟨w.heap.size + 1, 0, none⟩) (by simp)).trans (frozen_of_row _ _ 0 #[.slice none 0 0] 24 (Bk.newAt _ _ [.slice none 0 0] (by simp))))
          | (go_at_call 43; refine (HF1.out _).mono ?_; rintro e w' ⟨rfl, rfl⟩))
        refine bodyPost_ret (v := .tuple #[.agg #[.slice none 0 0], .int .i64 2]) (by simp [results, Try.results31, go_sem, k2]) rfl ?_
        rw [HE.out]
        exact ⟨_, _, _, rfl, Pa.nil _ _, hbw1.setCell (by simp) _⟩
end Go.Proofs.Ytkgheilaleekdaa
