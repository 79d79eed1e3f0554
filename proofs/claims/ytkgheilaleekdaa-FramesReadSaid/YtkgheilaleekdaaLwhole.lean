/-
  The walk of FramesWhole.
-/
import Derived.Test.YtkgheilaleekdaaLwrite
namespace Go.Proofs.Ytkgheilaleekdaa
open Go.RowKit

/-- The box of a memory in every later world. -/
def LK1 (w : World) (u : Value) (W : World) : Prop := Keeps w [(w.heap.size, 24, [u])] W
theorem LK1.start (w : World) (u : Value) : LK1 w u (w.alloc (.cells #[u] 24 (0, 0))) := (Keeps.start w).add 24 [u] rfl
theorem LK1.facts {w W : World} {u : Value} (h : LK1 w u W) : W.cell? ⟨w.heap.size, 0, none⟩ = some u ∧ w.heap.size < W.heap.size ∧ W.heap.size ≠ w.heap.size ∧ w.heap.size ≠ W.heap.size := by
  have c0 : Bk W w.heap.size _ [u] := h.2 _ (.head _)
  exact ⟨c0.cell 0, c0.lt, Nat.ne_of_gt c0.lt, Nat.ne_of_lt c0.lt⟩
theorem LK1.low {w W : World} {u : Value} (h : LK1 w u W) : Below w.heap.size w W := h.1
theorem LK1.step {w W W' : World} {u : Value} (h : LK1 w u W) (hb : Below W.heap.size W W') : LK1 w u W' := Keeps.step h hb

theorem fequal_t {va vb : Value} {ps : List (List UInt8)} {w : World} (ha : Pg w va ps) (hb : Pg w vb ps) :
    Calls Try.prog 29 #[.agg #[va], .agg #[vb]] w fun e w' => e = .returned (.bool true) ∧ Below w.heap.size w w' :=
  (fequal_w ha hb).mono fun _ _ ⟨h, h'⟩ => ⟨by rw [h, decide_eq_true rfl], h'⟩

set_option maxRecDepth 20000 in
set_option maxHeartbeats 1600000 in
theorem lwhole_w {w : World} {v0 v1 : Value} (h0 : IsMem w v0) (h1 : IsI64 w v1) :
    Calls Try.prog 8 #[v0, v1] w fun e w' => e = .returned (.bool true) ∧ Below w.heap.size w w' := by
  obtain ⟨u, ps, rfl, hv⟩ := h0
  obtain ⟨f, rfl, -⟩ := h1
  have HF := Lib.hid (fun w' (hb : Below w.heap.size w w') => rfew_w (hv.below hb (Nat.le_refl _)))
  obtain ⟨a, cap, rfl, -⟩ := hv.open
  cases hfew : Fr.few ps with
  | false =>
    rw [hfew] at HF
    clear hfew hv
    go_enter Try.func8, Try.ntmps8
    go_wp2_with (first
      | (go_at_call 10; refine (awake_w w2).mono ?_; rintro e w3 ⟨rfl, hb3⟩)
      | (go_at_call 10; refine (awake_w _).mono ?_; rintro e w1 ⟨rfl, hb1⟩; have hk1 := LK1.step (LK1.start _ _) hb1; obtain ⟨k0, z0, y0, x0⟩ := hk1.facts)
      | (go_at_call 11; refine (HF.out w1 hk1.low).mono ?_; rintro e w2 ⟨rfl, hb2⟩))
    go_ret
    exact ⟨rfl, ((hk1.step hb2).step hb3).low⟩
  | true =>
    rw [hfew] at HF
    have H1 := Lib.hid (fun w' (hbl : Below w.heap.size w w') => fread_w f 0 128 (hv.below hbl (Nat.le_refl _)))
    rcases Fr.chk_cases ps f 0 128 with ⟨hc, hva, hok⟩ | hc
    · obtain ⟨hl, hpl⟩ := Fr.valid_iff.1 hva
      obtain ⟨r1, r2, -, -, -, -⟩ := Fr.okR_iff.1 hok
      have hpf : Fr.page ps f = ps[f.toNat]'(by omega) := by unfold Fr.page; simp [List.getD, show f.toNat < ps.length by omega]
      have hpl' : (Fr.page ps f).length = 128 := by rw [hpf]; exact hpl _ _
      have hrd : Fr.read ps f 0 128 = (Fr.page ps f, 0) := by
        unfold Fr.read; rw [if_pos hc]; simp only [Int.toNat_zero, List.drop_zero]
        rw [List.take_of_length_le (by rw [hpl']; decide)]
      have hst : Fr.setF ps f (Fr.page ps f) = (ps, 0) := by
        unfold Fr.setF
        have h0 : Fr.chk ps f 0 (Fr.page ps f).length = 0 := by rw [Fr_chk_copy f hpl' hva, if_pos ⟨r1, r2⟩]
        rw [if_pos h0, hpl']
        simp only [Nat.sub_self, List.replicate_zero, List.append_nil]
        rw [hpf, List.set_getElem_self]
      rw [hrd] at H1
      have H2 := Lib.hid (fun w' (hbl : Below w.heap.size w w') vb (hs : Sl eb w' vb (Fr.page ps f)) => fset_w f (hv.below hbl (Nat.le_refl _)) hs)
      rw [hst] at H2
      have H3 := Lib.hid (fun w' (hbl : Below w.heap.size w w') vb (hs : Pg w' vb ps) => fequal_t hs (hv.below hbl (Nat.le_refl _)))
      generalize Fr.page ps f = pg at *
      have HPL := Lib.hid hpl'
      clear hst hrd hc hva hok hl hpl hpf hpl' hfew hv r1 r2
      go_enter Try.func8, Try.ntmps8
      go_wp2_with (first
        | (go_at_call 10; refine (awake_w _).mono ?_; rintro e w1 ⟨rfl, hb1⟩; have hk1 := LK1.step (LK1.start _ _) hb1; obtain ⟨k0, z0, y0, x0⟩ := hk1.facts)
        | (go_at_call 11; refine (HF.out w1 hk1.low).mono ?_; rintro e w2 ⟨rfl, hb2⟩; have hk2 := hk1.step hb2; obtain ⟨k0, z0, y0, x0⟩ := hk2.facts)
        | (go_at_call 13; refine (to_w _ _ _ w4).mono ?_; rintro e w5 ⟨rfl, hb5⟩; have hk5 := hk4.step hb5; have HS5 := Lib.hid (HS4.out.below hb5 (Nat.le_refl _)))
        | (go_at_call 13; refine (to_w _ _ _ w2).mono ?_; rintro e w3 ⟨rfl, hb3⟩; have hk3 := hk2.step hb3)
        | (go_at_call 14; refine (H1.out w3 hk3.low).mono ?_; rintro e w4 ⟨v4, rfl, ho4, hb4⟩; have HS4 := Lib.hid (Sl.ofOwn ho4); clear ho4; have hk4 := hk3.step hb4; obtain ⟨k0, z0, y0, x0⟩ := hk4.facts)
        | (go_at_call 20; refine (H2.out w5 hk5.low v4 HS5.out).mono ?_; rintro e w6 ⟨u6, rfl, hr6, hb6⟩; obtain ⟨a6, n6, c6, rfl⟩ := hr6.form; have hk6 := hk5.step hb6; have HR6 := Lib.hid hr6; clear hr6))
      have hk7 := hk6.step (low_alloc w6 (.cells #[.slice a6 n6 c6] 30 (0, 0)))
      have B7 := Bk.newAt w6 30 [.slice a6 n6 c6] rfl
      have P7 := HR6.out.pg.below (low_alloc w6 (.cells #[.slice a6 n6 c6] 30 (0, 0))) (Nat.le_refl _)
      generalize w6.alloc (.cells #[.slice a6 n6 c6] 30 (0, 0)) = w7 at *
      generalize w6.heap.size = g7 at *
      clear hk6 hk5 hk4 hk3 hk2 hk1 hb1 hb2 hb3 hb4 hb5 hb6 HS4 HS5 HR6 H1 H2 HF k0 z0 y0 x0
      obtain ⟨k0, z0, y0, x0⟩ := hk7.facts
      have k0d : w7.drew.cell? ⟨w.heap.size, 0, none⟩ = some (.slice a ps.length cap) := k0
      have k7d : w7.drew.cell? ⟨g7, 0, none⟩ = some (.slice a6 n6 c6) := B7.cell 0
      have HP7 := Lib.hid P7
      have HB7 := Lib.hid B7
      clear P7 B7
      go_region_held3 (fun w' => w'.cell? ⟨w.heap.size, 0, none⟩ = some (.slice a ps.length cap) ∧ w'.cell? ⟨g7, 0, none⟩ = some (.slice a6 n6 c6)) (first | go_keep | exact ⟨by assumption, by assumption⟩) ((first
        | (go_at_call 13; refine (to_w _ _ _ _).mono ?_; rintro e w8 ⟨rfl, hb8⟩; have hl8 := stepAny (low_drew w7) hb8; have hk8 := hk7.step hl8; have q1 := hk8.facts.1; have q2 := (HB7.out.below hl8 HB7.out.lt).cell 0; simp only [List.getElem?_cons_zero] at q2)
        | (go_at_call 29; refine (H3.out w8 hk8.low _ (HP7.out.below hl8 (Nat.le_refl _))).mono ?_; rintro e w9 ⟨rfl, hb9⟩; have hk9 := hk8.step hb9; have q1 := hk9.facts.1; have q2 := (HB7.out.below (stepAny hl8 hb9) HB7.out.lt).cell 0; simp only [List.getElem?_cons_zero] at q2)))
      go_wp2
      go_ret
      exact ⟨rfl, hk9.low⟩
    · have hne : ((Fr.chk ps f 0 128) != 0) = true := by rw [bne_iff_ne]; rcases hc with ⟨h, _⟩ | ⟨h, _⟩ <;> rw [h] <;> decide
      have hrd : Fr.read ps f 0 128 = ([], Fr.chk ps f 0 128) := by unfold Fr.read; rw [if_neg (by simpa using hne)]
      rw [hrd] at H1
      generalize Fr.chk ps f 0 128 = c at *
      clear hrd hc hfew hv
      go_enter Try.func8, Try.ntmps8
      go_wp2_with (first
        | (go_at_call 10; refine (awake_w _).mono ?_; rintro e w1 ⟨rfl, hb1⟩; have hk1 := LK1.step (LK1.start _ _) hb1; obtain ⟨k0, z0, y0, x0⟩ := hk1.facts)
        | (go_at_call 11; refine (HF.out w1 hk1.low).mono ?_; rintro e w2 ⟨rfl, hb2⟩; have hk2 := hk1.step hb2; obtain ⟨k0, z0, y0, x0⟩ := hk2.facts)
        | (go_at_call 13; refine (to_w _ _ _ w2).mono ?_; rintro e w3 ⟨rfl, hb3⟩; have hk3 := hk2.step hb3)
        | (go_at_call 14; refine (H1.out w3 hk3.low).mono ?_; rintro e w4 ⟨v4, rfl, ho4, hb4⟩; obtain ⟨a4, c4, rfl⟩ := own_slice ho4; have hk4 := hk3.step hb4))
      go_ret
      exact ⟨rfl, hk4.low⟩
end Go.Proofs.Ytkgheilaleekdaa
