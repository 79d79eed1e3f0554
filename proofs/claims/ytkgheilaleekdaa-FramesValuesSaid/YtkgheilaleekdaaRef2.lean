/-
  The walks of the reference's Write, Set and Copy.
-/
import Derived.Test.YtkgheilaleekdaaRef
namespace Go.Proofs.Ytkgheilaleekdaa
open Go.RowKit

/-- What the reference's Write, Set and Copy answer. -/
def RPost (w : World) (A : Nat → Prop) (r : List (List UInt8) × Int) (e : Ending) (w' : World) : Prop :=
  ∃ a n c, e = .returned (.tuple #[.agg #[.slice a n c], .int .i64 r.2]) ∧ Pa (fun b => A b ∨ (w.heap.size ≤ b ∧ b < w'.heap.size)) w' (.slice a n c) r.1 ∧ Below w.heap.size w w'

set_option maxHeartbeats 800000 in
theorem rwrite_err {v vb : Value} {ps : List (List UInt8)} {bs : List UInt8} {w : World} {A : Nat → Prop} (f x : Int) (hva : Pa A w v ps) (hb : Sl eb w vb bs) (hc : Fr.chk ps f x bs.length ≠ 0) :
    Calls Try.prog 17 #[.agg #[v], .int .i64 f, .int .i64 x, vb] w (RPost w A (Fr.write ps f x bs)) := by
  have hv := hva.pg
  have HC : Hid (∀ w', Below w.heap.size w w' → Calls Try.prog 35 #[.agg #[v], .int .i64 f, .int .i64 x, .int .i64 bs.length] w' fun e w'' => e = .returned (.int .i64 (Fr.chk ps f x bs.length)) ∧ Below w'.heap.size w' w'') := fun w' hb => rcheck_w f x bs.length (hv.below hb (Nat.le_refl _))
  have hB : Below w.heap.size w ((w.alloc (.cells #[v] 24 (0, 0))).alloc (.cells #[.slice none 0 0] 24 (0, 0))) := ((Below.refl _ _).alloc (Nat.le_refl _) _).alloc (by simp) _
  have hne : ((Fr.chk ps f x bs.length) != 0) = true := by rw [bne_iff_ne]; exact hc
  have HE : Hid (Fr.write ps f x bs = ([], Fr.chk ps f x bs.length)) := by show _ = _; unfold Fr.write; rw [if_neg hc]
  generalize Fr.chk ps f x bs.length = c at *
  obtain ⟨a, cap, rfl, -⟩ := hv.open
  obtain ⟨ab, cb, rfl, -⟩ := hb
  clear hc hv
  go_enter Try.func17, Try.ntmps17
  go_wp2_with (go_at_call 35; refine (HC.out _ hB).mono ?_; rintro e w1 ⟨rfl, hb1⟩; obtain ⟨hbw1, k1, k2⟩ := boxes2 hb1; have z2 := (hb1.frozen (p := ⟨w.heap.size + 1, 0, none⟩) (by simp)).trans (frozen_of_row _ _ 0 #[.slice none 0 0] 24 (Bk.newAt _ _ [.slice none 0 0] (by simp))))
  refine bodyPost_ret (v := .tuple #[.agg #[.slice none 0 0], .int .i64 c]) (by simp [results, Try.results17, go_sem, k2]) rfl ?_
  rw [HE.out]
  exact ⟨_, _, _, rfl, Pa.nil _ _, hbw1.setCell (by simp) _⟩

set_option maxHeartbeats 1600000 in
theorem rwrite_ok {v vb : Value} {ps : List (List UInt8)} {bs : List UInt8} {w : World} {A : Nat → Prop} (f x : Int) (hva : Pa A w v ps) (hA : ∀ b, A b → b < w.heap.size) (hb : Sl eb w vb bs) (hc : Fr.chk ps f x bs.length = 0) :
    Calls Try.prog 17 #[.agg #[v], .int .i64 f, .int .i64 x, vb] w (RPost w A (Fr.write ps f x bs)) := by
  have hv := hva.pg
  have HC : Hid (∀ w', Below w.heap.size w w' → Calls Try.prog 35 #[.agg #[v], .int .i64 f, .int .i64 x, .int .i64 bs.length] w' fun e w'' => e = .returned (.int .i64 0) ∧ Below w'.heap.size w' w'') := fun w' hb => by
    have := rcheck_w f x bs.length (hv.below hb (Nat.le_refl _))
    rw [hc] at this; exact this
  have HE : Hid (Fr.write ps f x bs = (ps.set f.toNat (Fr.put (Fr.page ps f) x.toNat bs), 0)) := by show _ = _; unfold Fr.write; rw [if_pos hc]
  have hB : Below w.heap.size w ((w.alloc (.cells #[v] 24 (0, 0))).alloc (.cells #[.slice none 0 0] 24 (0, 0))) := ((Below.refl _ _).alloc (Nat.le_refl _) _).alloc (by simp) _
  obtain ⟨hvl, hok⟩ := Fr.chk_zero hc
  obtain ⟨hl, hpl⟩ := Fr.valid_iff.1 hvl
  obtain ⟨r1, r2, r3, r4, r5, r6⟩ := Fr.okR_iff.1 hok
  obtain ⟨F, rfl⟩ := Int.eq_ofNat_of_zero_le r1
  obtain ⟨X, rfl⟩ := Int.eq_ofNat_of_zero_le r3
  have hF96 : F < 96 := by omega
  have hFp : F < ps.length := by omega
  have HW := Lib.hid (fun w' (hb : Below w.heap.size w w') vp p (hp : Sl eb w' vp p) B (hpB : inA (fun b => B ≤ b ∧ b < w'.heap.size) vp) => with_w (A := fun b => A b ∨ (B ≤ b ∧ b < w'.heap.size)) F ((hva.below hb (Nat.le_refl _)).mono fun _ h => .inl h) hp (hpB.mono fun _ h => .inr h) hl hF96)
  obtain ⟨a, cap, rfl, hcc, hcm, hna, -⟩ := hv.open
  obtain ⟨b, off, a', c', rfl, hbb, hck, p1, p2, p3, p4⟩ := hv.el F hFp
  obtain ⟨pb, po, rfl, hpb, -⟩ := p4.form (by rw [hpl F hFp]; omega)
  obtain ⟨ab, cb, rfl, hbc, hbm, hbn, hbr⟩ := hb
  have hpl' := hpl F hFp
  have HPG : Hid (Fr.page ps F = ps[F]) := by show _ = _; simp [Fr.page, List.getD, hFp]
  rw [hpl'] at hck p1
  have hd3 := p4.drop (X + bs.length) c' (by rw [hpl']; exact p1)
  rw [← cut_form] at hd3
  obtain ⟨ad3, hA3⟩ : ∃ ad3, (if c' = X + bs.length then some (⟨pb, po, none⟩ : Addr) else some ⟨pb, po + (X + bs.length), none⟩) = ad3 := ⟨_, rfl⟩
  rw [hA3] at hd3
  have HN3 : Hid (ad3 = none → c' - (X + bs.length) = 0) := by intro e; rw [e] at hA3; split at hA3 <;> cases hA3
  have hd1 := p4.take X
  generalize ps[F] = pg at *
  have HL1 : Hid ((pg.take X).length = X) := by show _ = _; rw [List.length_take]; omega
  have HL3 : Hid ((pg.drop (X + bs.length)).length = 128 - (X + bs.length)) := by show _ = _; rw [List.length_drop, hpl']
  rw [hl] at HC HW hB ⊢
  obtain ⟨i0, hi, hz0, hz1, hz2⟩ := info_parts Try.info5
  unfold maxLen at hcm p2 hbm
  have H1 := Lib.hid hd1
  have H3 := Lib.hid hd3
  have HAA := Lib.hid hA
  clear hc hva hvl hok hpl hpl' hl hv hA p4 hd1 hd3
  have g1 : X ≤ c' := by omega
  have g2 : 0 + X ≤ maxLen := by unfold maxLen; omega
  have g3 : (0 + X) * 1 ≤ 140737488355328 := by omega
  have g4 : 0 + X + bs.length ≤ maxLen := by unfold maxLen; omega
  have g5 : (0 + X + bs.length) * 1 ≤ 140737488355328 := by omega
  have g6 : 128 - (X + bs.length) ≤ c' - (X + bs.length) := by omega
  have g7 : 0 + X + bs.length + (128 - (X + bs.length)) ≤ maxLen := by unfold maxLen; omega
  have g8 : (0 + X + bs.length + (128 - (X + bs.length))) * 1 ≤ 140737488355328 := by omega
  have f1 : (0 : Int) ≤ (F : Int) := by omega
  have f2 : (F : Int) < 96 := by omega
  have f3 : (0 : Int) ≤ (X : Int) + (bs.length : Int) := by omega
  have f4 : (X : Int) + (bs.length : Int) ≤ 128 := by omega
  have f5 : ((X : Int) + (bs.length : Int)).toNat = X + bs.length := by omega
  go_enter Try.func17, Try.ntmps17
  go_wp2_with (go_at_call 35; refine (HC.out _ hB).mono ?_; rintro e w1 ⟨rfl, hb1⟩; obtain ⟨hbw1, k1, k2⟩ := boxes2 hb1; have hck1 := (hbw1.cell (p := ⟨b, off + F, none⟩) hbb).trans hck; have B1 : Bk w1 (w.heap.size + 1) 24 [.slice none 0 0] := ((Bk.newAt _ _ [_] (by simp)).below hb1 (by simp)))
  have hs1 : w.heap.size + 2 ≤ w1.heap.size := by have := hb1.size; simp at this; omega
  have hb10 : Below w.heap.size w (w1.alloc (.cells #[] 5 (0, 0))).drew := (hbw1.alloc hbw1.size _).drew
  have hb11 : Below w1.heap.size w1 (w1.alloc (.cells #[] 5 (0, 0))).drew := ((Below.refl _ _).alloc (Nat.le_refl _) _).drew
  have HO : Hid ((w1.alloc (.cells #[] 5 (0, 0))).drew.ownsRow w1.heap.size 5 1 (.slice (some ⟨w1.heap.size, 0, none⟩) 0 0) 0 []) := (own_empty (Bk.newAt w1 _ [] rfl) (Nat.le_refl _)).drew
  have f6 : IntKind.i64.wrap ((X : Int) + (bs.length : Int)) = (X : Int) + (bs.length : Int) := IntWalk.i64_in _ (by omega)
  go_region_held3 (fun _ => True) (trivial) ((first
    | (refine step_append_rd eb (fun _ => rfl) rfl (.tmp 28) (.tmp 31) 27 (by rfl) w1.heap.size 5 i0 (.int .u8 0) 1 Try.underlying27 hi hz0 hz1 hz2 rfl _ 0 [] (by rfl) HO.out (some ⟨pb, po, none⟩) c' (pg.take X) X (by rfl) HL1.out (fun h => by cases h) g1 (H1.out.below hb10 (Nat.le_refl _)) g2 g3 hb11.size ?_; intro v2 w2 ho2 hs2 hb2)
    | (refine step_append_rd eb (fun _ => rfl) rfl (.tmp 32) (.tmp 33) 27 (by rfl) w1.heap.size 5 i0 (.int .u8 0) 1 Try.underlying27 hi hz0 hz1 hz2 rfl v2 (0 + X) ([] ++ pg.take X) (by rfl) ho2 ab cb bs bs.length (by rfl) rfl hbn hbc (hbr.below (hb10.trans (hb2.mono hbw1.size)) (Nat.le_refl _)) g4 g5 (Nat.le_trans hb11.size hb2.size) ?_; intro v3 w3 ho3 hs3 hb3)
    | (refine step_append_rd eb (fun _ => rfl) rfl (.tmp 34) (.tmp 40) 27 (by rfl) w1.heap.size 5 i0 (.int .u8 0) 1 Try.underlying27 hi hz0 hz1 hz2 rfl v3 (0 + X + bs.length) ([] ++ pg.take X ++ bs) (by rfl) ho3 ad3 (c' - (X + bs.length)) (pg.drop (X + bs.length)) (128 - (X + bs.length)) (by rfl) HL3.out HN3.out g6 (H3.out.below ((hb10.trans (hb2.mono hbw1.size)).trans (hb3.mono hbw1.size)) (Nat.le_refl _)) g7 g8 (Nat.le_trans (Nat.le_trans hb11.size hb2.size) hb3.size) ?_; intro v4 w4 ho4 hs4 hb4)))
  clear f6
  have hbw4 := ((hb10.trans (hb2.mono hbw1.size)).trans (hb3.mono hbw1.size)).trans (hb4.mono hbw1.size)
  have hb14 := ((hb11.trans hb2).trans hb3).trans hb4
  have k14 := (hb14.cell (p := ⟨w.heap.size, 0, none⟩) (by show w.heap.size < _; omega)).trans k1
  have B14 := B1.below hb14 B1.lt
  have z14 := hb14.size
  have HS4 : Hid (Sl eb w4 v4 (Fr.put pg X bs)) := by
    have h := Sl.ofOwn ho4
    rw [List.nil_append, List.append_assoc] at h
    exact h
  have HI4 := Lib.hid (inA.own ho4)
  clear ho2 ho3 ho4 hs2 hs3 hs4 hb2 hb3 hb4 HO hb10 hb11 k1 hck1 hb14
  go_wp2_with (go_at_call 36; refine (HW.out w4 hbw4 v4 _ HS4.out w1.heap.size HI4.out).mono ?_; rintro e w5 ⟨a5, n5, c5, rfl, hp5, hb5⟩; have HP5 := Lib.hid hp5; clear hp5; have B15 := B14.below hb5 B14.lt; have k5 := B15.cell 0; have z5 := B15.frozen 0; simp only [List.getElem?_cons_zero] at k5)
  refine bodyPost_ret (v := .tuple #[.agg #[.slice a5 n5 c5], .int .i64 0]) (by simp [results, Try.results17, go_sem, k5]) rfl ?_
  rw [HE.out]
  simp only [Int.toNat_natCast]
  rw [HPG.out]
  have hs5 := hb5.size
  refine ⟨_, _, _, rfl, (HP5.out.keep fun b hb _ => Below.heap_setCell _ _ _ _ (by
    rintro rfl
    rcases hb with (h | h) | h
    · have := HAA.out _ h; simp at this; omega
    · simp at h; omega
    · simp at h; omega)).mono fun b hb => ?_, (hbw4.trans (hb5.mono hbw4.size)).setCell (by simp) _⟩
  show A b ∨ (w.heap.size ≤ b ∧ b < (w5.setCell _ _).heap.size)
  have hsz : (w5.setCell ⟨w.heap.size + 1, 0, none⟩ (.slice a5 n5 c5)).heap.size = w5.heap.size := by simp
  rw [hsz]
  rcases hb with (h | h) | h
  · exact .inl h
  · exact .inr ⟨by omega, by omega⟩
  · exact .inr ⟨by omega, by omega⟩
end Go.Proofs.Ytkgheilaleekdaa
