/-
  The walks of frames.Read and frames.Write.
-/
import Derived.Test.YtkgheilaleekdaaCopied
namespace Go.Proofs.Ytkgheilaleekdaa
open Go.RowKit

theorem cut_form (b o c x : Nat) : (if c = x then some (⟨b, o, none⟩ : Addr) else some ⟨b, o + x, none⟩) = cutA (some ⟨b, o, none⟩) x c 1 := by
  unfold cutA
  by_cases h : c = x
  · rw [if_pos h, if_pos h]
  · rw [if_neg h, if_neg h]
    by_cases h0 : x = 0
    · subst h0; simp [Addr.add]
    · simp [Addr.add, h0]

theorem Fm.at {w : World} {g h : Nat} {ps : List (List UInt8)} (F : Fm w g h ps) (i : Nat) (hi : i < 96) : w.cell? ⟨h, i, none⟩ = some (.slice (some ⟨g, i * 128, none⟩) 128 128) := by
  obtain ⟨f1, f2, _, ⟨T, t1, t2, t3⟩⟩ := F
  rw [t1.cell, t3 i hi]

theorem retT {v : Value} {a b : Int} (h : a = b) : Ending.returned (.tuple #[v, .int .i64 a]) = .returned (.tuple #[v, .int .i64 b]) := by rw [h]

set_option maxHeartbeats 800000 in
theorem fread_w {v : Value} {ps : List (List UInt8)} {w : World} (f x n : Int) (hv : Pg w v ps) :
    Calls Try.prog 14 #[.agg #[v], .int .i64 f, .int .i64 x, .int .i64 n] w fun e w' => ∃ v', e = .returned (.tuple #[v', .int .i64 (Fr.read ps f x n).2]) ∧ w'.ownsRow w.heap.size 5 1 v' (Fr.read ps f x n).1.length ((Fr.read ps f x n).1.map eb) ∧ Below w.heap.size w w' := by
  have HV := Lib.hid hv
  have HC : Hid (∀ w', Below w.heap.size w w' → Calls Try.prog 32 #[.agg #[v], .int .i64 f, .int .i64 x, .int .i64 n] w' fun e w'' => e = .returned (.int .i64 (Fr.chk ps f x n)) ∧ Below w'.heap.size w' w'') := fun w' hb => check_w f x n (hv.below hb (Nat.le_refl _))
  have hB : Below w.heap.size w (w.alloc (.cells #[v] 30 (0, 0))) := (Below.refl _ _).alloc (Nat.le_refl _) _
  rcases Fr.chk_cases ps f x n with ⟨hc, hva, hok⟩ | hc
  · obtain ⟨hl, hpl⟩ := Fr.valid_iff.1 hva
    obtain ⟨r1, r2, r3, r4, r5, r6⟩ := Fr.okR_iff.1 hok
    obtain ⟨F, rfl⟩ := Int.eq_ofNat_of_zero_le r1
    obtain ⟨X, rfl⟩ := Int.eq_ofNat_of_zero_le r3
    obtain ⟨N, rfl⟩ := Int.eq_ofNat_of_zero_le r5
    have hF : F < ps.length := by omega
    obtain ⟨a, cap, rfl, hcc, hcm, hna, -⟩ := hv.open
    obtain ⟨b, off, a', c', rfl, hb, hck, p1, p2, p3, p4⟩ := hv.el F hF
    obtain ⟨pb, po, rfl, hpb, -⟩ := p4.form (by rw [hpl F hF]; omega)
    have HR : Hid (Fr.read ps F X N = ((ps[F].drop X).take N, 0)) := by
      show Fr.read ps F X N = _
      unfold Fr.read; rw [if_pos hc]; simp [Fr.page, List.getD, hF]
    rw [hpl F hF] at hck p1
    have HRL : Hid (((ps[F].drop X).take N).length = N) := by
      show _ = _
      rw [List.length_take, List.length_drop, hpl F hF]; omega
    have hrd := (p4.drop X c' (by rw [hpl F hF]; exact p1)).take N
    rw [← cut_form] at hrd
    obtain ⟨ad2, hA⟩ : ∃ ad2, (if c' = X then some (⟨pb, po, none⟩ : Addr) else some ⟨pb, po + X, none⟩) = ad2 := ⟨_, rfl⟩
    rw [hA] at hrd
    have hna2 : ad2 = none → c' - X = 0 := by intro e; rw [e] at hA; split at hA <;> cases hA
    have HS : Hid (∀ w', Below w.heap.size w w' → Calls Try.prog 34 #[.slice ad2 N (c' - X)] w' fun e w'' => ∃ v, e = .returned v ∧ w''.ownsRow w'.heap.size 5 1 v ((ps[F].drop X).take N).length (((ps[F].drop X).take N).map eb) ∧ Below w'.heap.size w' w'') := fun w' hb =>
      bclone_w (w := w') ⟨ad2, c' - X, by rw [HRL.out], by rw [HRL.out]; omega, by unfold maxLen at *; omega, hna2, hrd.below hb (Nat.le_refl _)⟩ (by rw [HRL.out]; omega)
    rw [hc] at HC
    rw [hl] at HC hB ⊢
    have HN2 := Lib.hid hna2
    have HRD := Lib.hid hrd
    unfold maxLen at hcm p2
    clear hc hva hok hpl hl HV hv p4 hrd hna2
    have f1 : (0 : Int) ≤ (F : Int) := by omega
    have f2 : (F : Int) < 96 := by omega
    go_enter Try.func14, Try.ntmps14
    go_wp2_with (first
      | (go_at_call 32; refine (HC.out _ hB).mono ?_; rintro e w1 ⟨rfl, hb1⟩; obtain ⟨hbw1, k1⟩ := box1 hb1; have hck1 := (hbw1.cell (p := ⟨b, off + F, none⟩) hb).trans hck)
      | (go_at_call 34; refine (HS.out w1 hbw1).mono ?_; rintro e w2 ⟨v2, rfl, ho2, hb2⟩))
    go_ret2
    rw [HR.out]
    refine ⟨_, rfl, ?_, hbw1.trans (hb2.mono hbw1.size)⟩
    obtain ⟨q1, q2⟩ := ho2
    refine ⟨q1, q2.elim .inl ?_⟩
    rintro ⟨g, cp, cur, e1, e2, e3⟩
    exact .inr ⟨g, cp, cur, e1, Nat.le_trans hbw1.size e2, e3⟩
  · have hne : ((Fr.chk ps f x n) != 0) = true := by rw [bne_iff_ne]; rcases hc with ⟨h, _⟩ | ⟨h, _⟩ <;> rw [h] <;> decide
    have HR : Hid (Fr.read ps f x n = ([], Fr.chk ps f x n)) := by
      show Fr.read ps f x n = _
      unfold Fr.read; rw [if_neg (by simpa using hne)]
    generalize Fr.chk ps f x n = c at *
    obtain ⟨a, cap, rfl, -⟩ := hv.open
    clear hc hv HV
    go_enter Try.func14, Try.ntmps14
    go_wp2_with (go_at_call 32; refine (HC.out _ hB).mono ?_; rintro e w1 ⟨rfl, hb1⟩; obtain ⟨hbw1, k1⟩ := box1 hb1)
    go_ret2
    rw [HR.out]
    exact ⟨_, rfl, World.ownsRow_nil _ _ _ _, hbw1⟩

set_option maxHeartbeats 800000 in
theorem fwrite_err {v vb : Value} {ps : List (List UInt8)} {bs : List UInt8} {w : World} (f x : Int) (hv : Pg w v ps) (hb : Sl eb w vb bs) (hc : Fr.chk ps f x bs.length ≠ 0) :
    Calls Try.prog 12 #[.agg #[v], .int .i64 f, .int .i64 x, vb] w fun e w' => e = .returned (.tuple #[.agg #[.slice none 0 0], .int .i64 (Fr.chk ps f x bs.length)]) ∧ Below w.heap.size w w' := by
  have HC : Hid (∀ w', Below w.heap.size w w' → Calls Try.prog 32 #[.agg #[v], .int .i64 f, .int .i64 x, .int .i64 bs.length] w' fun e w'' => e = .returned (.int .i64 (Fr.chk ps f x bs.length)) ∧ Below w'.heap.size w' w'') := fun w' hb => check_w f x bs.length (hv.below hb (Nat.le_refl _))
  have hB : Below w.heap.size w ((w.alloc (.cells #[v] 30 (0, 0))).alloc (.cells #[.slice none 0 0] 30 (0, 0))) := ((Below.refl _ _).alloc (Nat.le_refl _) _).alloc (by simp) _
  have hne : ((Fr.chk ps f x bs.length) != 0) = true := by rw [bne_iff_ne]; exact hc
  generalize Fr.chk ps f x bs.length = c at *
  obtain ⟨a, cap, rfl, -⟩ := hv.open
  obtain ⟨ab, cb, rfl, -⟩ := hb
  clear hc hv
  go_enter Try.func12, Try.ntmps12
  go_wp2_with (go_at_call 32; refine (HC.out _ hB).mono ?_; rintro e w1 ⟨rfl, hb1⟩; obtain ⟨hbw1, k1, k2⟩ := boxes2 hb1; have z2 := (hb1.frozen (p := ⟨w.heap.size + 1, 0, none⟩) (by simp)).trans (frozen_of_row _ _ 0 #[.slice none 0 0] 30 (Bk.newAt _ _ [.slice none 0 0] (by simp))))
  exact bodyPost_ret (v := .tuple #[.agg #[.slice none 0 0], .int .i64 c]) (by simp [results, Try.results12, go_sem, k2]) rfl ⟨rfl, hbw1.setCell (by simp) _⟩

set_option maxHeartbeats 1600000 in
theorem fwrite_ok {v vb : Value} {ps : List (List UInt8)} {bs : List UInt8} {w : World} (f x : Int) (hv : Pg w v ps) (hb : Sl eb w vb bs) (hc : Fr.chk ps f x bs.length = 0) :
    Calls Try.prog 12 #[.agg #[v], .int .i64 f, .int .i64 x, vb] w fun e w' => ∃ g h, e = .returned (.tuple #[.agg #[.slice (some ⟨h, 0, none⟩) 96 96], .int .i64 0]) ∧ w.heap.size ≤ g ∧ w.heap.size ≤ h ∧ g ≠ h ∧ Fm w' g h (ps.set f.toNat (Fr.put (Fr.page ps f) x.toNat bs)) ∧ Below w.heap.size w w' := by
  have HV := Lib.hid hv
  have HC : Hid (∀ w', Below w.heap.size w w' → Calls Try.prog 32 #[.agg #[v], .int .i64 f, .int .i64 x, .int .i64 bs.length] w' fun e w'' => e = .returned (.int .i64 0) ∧ Below w'.heap.size w' w'') := fun w' hb => by
    have := check_w f x bs.length (hv.below hb (Nat.le_refl _))
    rw [hc] at this; exact this
  have hB : Below w.heap.size w ((w.alloc (.cells #[v] 30 (0, 0))).alloc (.cells #[.slice none 0 0] 30 (0, 0))) := ((Below.refl _ _).alloc (Nat.le_refl _) _).alloc (by simp) _
  obtain ⟨hva, hok⟩ := Fr.chk_zero hc
  obtain ⟨hl, hpl⟩ := Fr.valid_iff.1 hva
  obtain ⟨r1, r2, r3, r4, r5, r6⟩ := Fr.okR_iff.1 hok
  obtain ⟨F, rfl⟩ := Int.eq_ofNat_of_zero_le r1
  obtain ⟨X, rfl⟩ := Int.eq_ofNat_of_zero_le r3
  have HD := Lib.hid (fun w' (hb : Below w.heap.size w w') => copied_w (hv.below hb (Nat.le_refl _)) hva)
  obtain ⟨a, cap, rfl, hcc, hcm, hna, -⟩ := hv.open
  obtain ⟨ab, cb, rfl, hbc, hbm, hbn, hbr⟩ := hb
  have hlb : bs.length ≤ 128 - X := by omega
  rw [hl] at HC HD hB ⊢
  unfold maxLen at hcm hbm
  have HL := Lib.hid hl
  clear hc hva hok hpl hl HV hv
  simp only [Int.toNat_natCast] at *
  have f1 : (0 : Int) ≤ (F : Int) := by omega
  have f2 : (F : Int) < 96 := by omega
  go_enter Try.func12, Try.ntmps12
  go_wp2_with (first
    | (go_at_call 32; refine (HC.out _ hB).mono ?_; rintro e w1 ⟨rfl, hb1⟩; obtain ⟨hbw1, k1, k2⟩ := boxes2 hb1; have B1 : Bk w1 (w.heap.size + 1) 30 [.slice none 0 0] := ((Bk.newAt _ _ [_] (by simp)).below hb1 (by simp)))
    | (go_at_call 33; refine (HD.out w1 hbw1).mono ?_; rintro e w2 ⟨g, h, rfl, hg, hh, hgh, hF, hb2⟩; have ct := hF.at F (by omega); have hhl := hF.lt.2; have ⟨cur, r1, r2, r3⟩ := hF.row; have R2 := Lib.hid r2; have R3 := Lib.hid r3; have HF := Lib.hid hF; clear r2 r3 hF; obtain ⟨ad2, hA⟩ : ∃ ad2, (if 128 = X then some (⟨g, F * 128, none⟩ : Addr) else some ⟨g, F * 128 + X, none⟩) = ad2 := ⟨_, rfl⟩)
    | (refine wpList_copy_rd eb (fun _ => rfl) rfl (.tmp 30) (.tmp 31) 27 27 rfl 5 Try.underlying27 sz5 ad2 g (F * 128 + X) (128 - X) (128 - X) ab bs bs.length cb bs.length rfl rfl rfl (Nat.min_eq_left (by omega)) (fun h0 => (by rw [← hA, if_neg (by omega)])) (hbr.below ((hbw1.trans (hb2.mono hbw1.size)).alloc (Nat.le_trans hbw1.size hb2.size) _) (Nat.le_refl _)) cur 5 (r1.alloc _) (by rw [R2.out]; omega) ?_; intro w3 hb3 hgr3; have hbw3 := ((hbw1.trans (hb2.mono hbw1.size)).alloc (Nat.le_trans hbw1.size hb2.size) (.cells #[.slice (some ⟨h, 0, none⟩) 96 96] 30 (0, 0))).trans (below_of_grown hgr3 (Nat.le_trans hbw1.size hg) (by have := hbw1.size; have := hb2.size; simp; omega)); have hF3 := (HF.out.below ((Below.refl _ w2).alloc (Nat.le_refl _) (.cells #[.slice (some ⟨h, 0, none⟩) 96 96] 30 (0, 0))) (Nat.le_refl _)).put hgh hgr3 R2.out R3.out F X bs (by omega) (by omega) (by rw [List.take_length] at hb3; exact hb3); have B13 := ((B1.below hb2 B1.lt).alloc (.cells #[.slice (some ⟨h, 0, none⟩) 96 96] 30 (0, 0))).grown hgr3 (by have := hbw1.size; have := hb1.size; simp at *; omega); have B33 := (Bk.newAt w2 30 [.slice (some ⟨h, 0, none⟩) 96 96] rfl).grown hgr3 (by have := HF.out.lt.1; simp; omega); have k3 := B33.cell 0; have k1 := B13.cell 0; have z1 := B13.frozen 0; simp only [List.getElem?_cons_zero] at k3 k1; have hs1 : w.heap.size + 2 ≤ w1.heap.size := (by have := hb1.size; simp at this; omega); have HF3 := Lib.hid hF3; have HB3 := Lib.hid hbw3; clear hb3 hgr3 hF3 hbw3 hA))
  exact bodyPost_ret (v := .tuple #[.agg #[.slice (some ⟨h, 0, none⟩) 96 96], .int .i64 0]) (by simp [results, Try.results12, go_sem, k1]) rfl ⟨g, h, rfl, by omega, by omega, hgh, HF3.out.keep (Below.heap_setCell _ _ _ _ (by simp; omega)) (Below.heap_setCell _ _ _ _ (by simp; omega)), HB3.out.setCell (by simp) _⟩
end Go.Proofs.Ytkgheilaleekdaa
