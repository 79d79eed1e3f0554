/-
  The walks of the reference's Set.
-/
import Derived.Test.YtkgheilaleekdaaRef2
namespace Go.Proofs.Ytkgheilaleekdaa
open Go.RowKit

/-- The length of a slice in a slot: for a loop's measure. -/
def lenOf : Value → Nat | .slice _ n _ => n | _ => 0

set_option maxHeartbeats 800000 in
theorem rset_err {v vb : Value} {ps : List (List UInt8)} {bs : List UInt8} {w : World} {A : Nat → Prop} (f : Int) (hva : Pa A w v ps) (hb : Sl eb w vb bs) (hc : Fr.chk ps f 0 bs.length ≠ 0) :
    Calls Try.prog 21 #[.agg #[v], .int .i64 f, vb] w (RPost w A (Fr.setF ps f bs)) := by
  have hv := hva.pg
  have HC : Hid (∀ w', Below w.heap.size w w' → Calls Try.prog 35 #[.agg #[v], .int .i64 f, .int .i64 0, .int .i64 bs.length] w' fun e w'' => e = .returned (.int .i64 (Fr.chk ps f 0 bs.length)) ∧ Below w'.heap.size w' w'') := fun w' hb => rcheck_w f 0 bs.length (hv.below hb (Nat.le_refl _))
  have hB : Below w.heap.size w ((w.alloc (.cells #[v] 24 (0, 0))).alloc (.cells #[.slice none 0 0] 24 (0, 0))) := ((Below.refl _ _).alloc (Nat.le_refl _) _).alloc (by simp) _
  have hne : ((Fr.chk ps f 0 bs.length) != 0) = true := by rw [bne_iff_ne]; exact hc
  have HE : Hid (Fr.setF ps f bs = ([], Fr.chk ps f 0 bs.length)) := by show _ = _; unfold Fr.setF; rw [if_neg hc]
  generalize Fr.chk ps f 0 bs.length = c at *
  obtain ⟨a, cap, rfl, -⟩ := hv.open
  obtain ⟨ab, cb, rfl, -⟩ := hb
  clear hc hv
  go_enter Try.func21, Try.ntmps21
  go_wp2_with (go_at_call 35; refine (HC.out _ hB).mono ?_; rintro e w1 ⟨rfl, hb1⟩; obtain ⟨hbw1, k1, k2⟩ := boxes2 hb1; have z2 := (hb1.frozen (p := ⟨w.heap.size + 1, 0, none⟩) (by simp)).trans (frozen_of_row _ _ 0 #[.slice none 0 0] 24 (Bk.newAt _ _ [.slice none 0 0] (by simp))))
  refine bodyPost_ret (v := .tuple #[.agg #[.slice none 0 0], .int .i64 c]) (by simp [results, Try.results21, go_sem, k2]) rfl ?_
  rw [HE.out]
  exact ⟨_, _, _, rfl, Pa.nil _ _, hbw1.setCell (by simp) _⟩

set_option maxHeartbeats 1600000 in
theorem rset_ok {v vb : Value} {ps : List (List UInt8)} {bs : List UInt8} {w : World} {A : Nat → Prop} (f : Int) (hva : Pa A w v ps) (hA : ∀ b, A b → b < w.heap.size) (hb : Sl eb w vb bs) (hc : Fr.chk ps f 0 bs.length = 0) :
    Calls Try.prog 21 #[.agg #[v], .int .i64 f, vb] w (RPost w A (Fr.setF ps f bs)) := by
  have hv := hva.pg
  have HC : Hid (∀ w', Below w.heap.size w w' → Calls Try.prog 35 #[.agg #[v], .int .i64 f, .int .i64 0, .int .i64 bs.length] w' fun e w'' => e = .returned (.int .i64 0) ∧ Below w'.heap.size w' w'') := fun w' hb => by
    have := rcheck_w f 0 bs.length (hv.below hb (Nat.le_refl _))
    rw [hc] at this; exact this
  have HE : Hid (Fr.setF ps f bs = (ps.set f.toNat (bs ++ List.replicate (128 - bs.length) 0), 0)) := by show _ = _; unfold Fr.setF; rw [if_pos hc]
  have hB : Below w.heap.size w ((w.alloc (.cells #[v] 24 (0, 0))).alloc (.cells #[.slice none 0 0] 24 (0, 0))) := ((Below.refl _ _).alloc (Nat.le_refl _) _).alloc (by simp) _
  obtain ⟨hvl, hok⟩ := Fr.chk_zero hc
  obtain ⟨hl, hpl⟩ := Fr.valid_iff.1 hvl
  obtain ⟨r1, r2, -, -, r5, r6⟩ := Fr.okR_iff.1 hok
  obtain ⟨F, rfl⟩ := Int.eq_ofNat_of_zero_le r1
  have hF96 : F < 96 := by omega
  have HW := Lib.hid (fun w' (hb : Below w.heap.size w w') vp p (hp : Sl eb w' vp p) B (hpB : inA (fun b => B ≤ b ∧ b < w'.heap.size) vp) => with_w (A := fun b => A b ∨ (B ≤ b ∧ b < w'.heap.size)) F ((hva.below hb (Nat.le_refl _)).mono fun _ h => .inl h) hp (hpB.mono fun _ h => .inr h) hl hF96)
  obtain ⟨a, cap, rfl, hcc, hcm, hna, -⟩ := hv.open
  obtain ⟨ab, cb, rfl, hbc, hbm, hbn, hbr⟩ := hb
  rw [hl] at HC HW hB ⊢
  obtain ⟨i0, hi, hz0, hz1, hz2⟩ := info_parts Try.info5
  unfold maxLen at hcm hbm
  have HAA := Lib.hid hA
  have hlb : bs.length ≤ 128 := by omega
  clear hc hva hok hpl hvl hl hv hA
  have f1 : (0 : Int) ≤ (F : Int) := by omega
  have f2 : (F : Int) < 96 := by omega
  go_enter Try.func21, Try.ntmps21
  go_wp2_with (first
    | (go_at_call 35; refine (HC.out _ hB).mono ?_; rintro e w1 ⟨rfl, hb1⟩; obtain ⟨hbw1, k1, k2⟩ := boxes2 hb1; have B1 : Bk w1 (w.heap.size + 1) 24 [.slice none 0 0] := ((Bk.newAt _ _ [_] (by simp)).below hb1 (by simp)); have B0 : Bk w1 w.heap.size 24 [.slice a 96 cap] := (((Bk.new w _ [_]).alloc _).below hb1 (by simp; omega)))
    | (at_builtin; refine wpList_append_rd eb (fun _ => rfl) rfl (.tmp 19) (.tmp 20) 27 rfl w1.heap.size 5 i0 (.int .u8 0) 1 Try.underlying27 hi hz0 hz1 hz2 rfl _ 0 [] rfl (own_empty (Bk.newAt _ _ [] rfl) (Nat.le_refl _)) ab cb bs bs.length rfl rfl hbn hbc (hbr.below (hbw1.alloc hbw1.size _) (Nat.le_refl _)) (by unfold maxLen; omega) (by omega) (by simp) ?_; intro v2 w2 ho2 hsp2 hb2; obtain ⟨a2, c2, rfl⟩ := own_slice ho2; simp only [Nat.zero_add, List.nil_append] at ho2))
  have hb12 : Below w1.heap.size w1 w2 := ((Below.refl _ w1).alloc (Nat.le_refl _) _).trans hb2
  have hs1 : w.heap.size + 2 ≤ w1.heap.size := by have := hb1.size; simp at this; omega
  clear hsp2 hb2 HC
  go_loopw [9] (fun s9 wr => ∃ (n : Nat) (zs : List UInt8) (a9 : Option Addr) (c9 : Nat), s9 = .slice a9 n c9 ∧ n ≤ 128 ∧ bs.length ≤ n ∧ Hid (zs = bs ++ List.replicate (n - bs.length) 0) ∧ wr.ownsRow w1.heap.size 5 1 (.slice a9 n c9) n (zs.map eb) ∧ Below w1.heap.size w1 wr) (fun s9 _ => 128 - lenOf s9)
  case atStart => exact ⟨bs.length, bs, a2, c2, rfl, by omega, Nat.le_refl _, by show _ = _; simp, ho2, hb12⟩
  case round =>
    obtain ⟨n, zs, a9, c9, rfl, hk, hkl, HZ, hO, hbl⟩ := hrel
    by_cases hlt : n < 128
    · have f3 : (n : Int) < 128 := by omega
      go_wp2_with (at_builtin; refine wpList_append_rd eb (fun _ => rfl) rfl (.tmp 25) (.tmp 26) 27 rfl w1.heap.size 5 i0 (.int .u8 0) 1 Try.underlying27 hi hz0 hz1 hz2 rfl _ n zs rfl (hO.alloc _) (some ⟨wr.heap.size, 0, none⟩) 1 [0] 1 rfl rfl (by simp) (by omega) (Rd.one eb _ 0 _ _) (by unfold maxLen; omega) (by omega) (by have := hbl.size; simp; omega) ?_; intro v3 w3 ho3 hs3 hb3; obtain ⟨a3, c3, rfl⟩ := own_slice ho3)
      have hbl3 := (hbl.alloc hbl.size (.cells #[.int .u8 0] 5 (0, 0))).trans hb3
      have HZ4 : Hid (zs ++ [0] = bs ++ List.replicate (n + 1 - bs.length) 0) := by
        show _ = _
        rw [show n + 1 - bs.length = (n - bs.length) + 1 by omega, List.replicate_succ', ← List.append_assoc, ← HZ.out]
      clear hs3 hb3 hO hbl HZ
      go_roundw
      case rel => exact ⟨n + 1, zs ++ [0], a3, c3, rfl, by omega, by omega, HZ4, ho3, hbl3⟩
      case measure => simp [lenOf]; omega
    · obtain rfl : n = 128 := by omega
      have hzs := HZ.out
      subst hzs
      have hbwr := hbw1.trans (hbl.mono hbw1.size)
      have B10 := B1.below hbl B1.lt
      have k0 := (B0.below hbl B0.lt).cell 0
      simp only [List.getElem?_cons_zero] at k0
      have HS := Lib.hid (Sl.ofOwn hO)
      have HI := Lib.hid (inA.own hO)
      clear hO
      go_wp2_with (go_at_call 36; refine (HW.out wr hbwr _ _ HS.out w1.heap.size HI.out).mono ?_; rintro e w5 ⟨a5, n5, c5, rfl, hp5, hb5⟩; have HP5 := Lib.hid hp5; clear hp5; have B15 := B10.below hb5 B10.lt; have k5 := B15.cell 0; have z5 := B15.frozen 0; simp only [List.getElem?_cons_zero] at k5)
      refine bodyPost_ret (v := .tuple #[.agg #[.slice a5 n5 c5], .int .i64 0]) (by simp [results, Try.results21, go_sem, k5]) rfl ?_
      rw [HE.out]
      simp only [Int.toNat_natCast]
      have hs5 := hb5.size
      have hsr := hbl.size
      refine ⟨_, _, _, rfl, (HP5.out.keep fun b hb _ => Below.heap_setCell _ _ _ _ (by
        rintro rfl
        rcases hb with (h | h) | h
        · have := HAA.out _ h; simp at this; omega
        · simp at h; omega
        · simp at h; omega)).mono fun b hb => ?_, (hbwr.trans (hb5.mono hbwr.size)).setCell (by simp) _⟩
      show A b ∨ (w.heap.size ≤ b ∧ b < (w5.setCell _ _).heap.size)
      have hsz : (w5.setCell ⟨w.heap.size + 1, 0, none⟩ (.slice a5 n5 c5)).heap.size = w5.heap.size := by simp
      rw [hsz]
      rcases hb with (h | h) | h
      · exact .inl h
      · exact .inr ⟨by omega, by omega⟩
      · exact .inr ⟨by omega, by omega⟩

end Go.Proofs.Ytkgheilaleekdaa
