/-
  The walk of the reference's New.
-/
import Derived.Test.YtkgheilaleekdaaRused
namespace Go.Proofs.Ytkgheilaleekdaa
open Go.RowKit

set_option maxRecDepth 20000 in
set_option maxHeartbeats 1600000 in
theorem rnew_w (w : World) :
    Calls Try.prog 28 #[] w fun e w' => ∃ v, e = .returned (.agg #[v]) ∧ Pg w' v Fr.new ∧ Below w.heap.size w w' := by
  obtain ⟨i27, hi27, hz27, hs27, hb27⟩ := info_parts Try.info27
  obtain ⟨Z, hZ, hmk⟩ := make128
  obtain ⟨Z2, hZ2⟩ : ∃ Z : List Value, Z = List.replicate 96 (.slice none 0 0) := ⟨_, rfl⟩
  have hm2 : ∀ W : World, (Instr.makeSlice 22 (.int .i64 96) (.int .i64 96)).run Try.prog W = .ok (.slice (some ⟨W.heap.size, 0, none⟩) 96 96) (W.alloc (.cells Z2.toArray 27 (0, 0))) := fun W => by
    have h := run_make (P := Try.prog) W 22 27 i27 (.slice none 0 0) Try.underlying22 hi27 hz27 .i64 .i64 96 96 (by decide) (by decide) (by rw [hb27]; decide) (by decide)
    rw [hs27] at h
    rw [hZ2, ← toList_made]
    exact h
  have HZ := Lib.hid hZ
  have HZ2 := Lib.hid hZ2
  clear hZ hZ2 hi27 hz27 hs27 hb27
  go_enter Try.func28, Try.ntmps28
  go_wp2
  go_loopw [2] (fun s2 wr => ∃ (k : Nat) (T : List Value), s2 = .int .i64 k ∧ k ≤ 96 ∧ Bk wr (w.heap.size + 1) 27 T ∧ Hid (T.length = 96 ∧ ∀ j, j < k → ∃ g, T[j]? = some (.slice (some ⟨g, 0, none⟩) 128 128) ∧ Bk wr g 5 Z) ∧ Bk wr w.heap.size 24 [.slice none 0 0] ∧ Bk wr (w.heap.size + 1 + 1) 24 [.slice (some ⟨w.heap.size + 1, 0, none⟩) 96 96] ∧ Below w.heap.size w wr) (fun s2 _ => 96 - (intOf s2).toNat)
  case atStart =>
    refine ⟨0, Z2, rfl, Nat.zero_le _, (Bk.newAt _ _ Z2 (by simp)).alloc _, ⟨by rw [HZ2.out]; simp, fun j hj => absurd hj (Nat.not_lt_zero _)⟩, ((Bk.new w _ [.slice none 0 0]).alloc _).alloc _, Bk.newAt _ _ [_] (by simp), ?_⟩
    exact (((Below.refl _ w).alloc (Nat.le_refl _) _).alloc (by simp) _).alloc (by simp; omega) _
  case round =>
    obtain ⟨k, T, rfl, hk, bT, HT, b0, b2, hbl⟩ := hrel
    by_cases hlt : k < 96
    · have c2 := b2.cell 0
      have cT : wr.cell? ⟨w.heap.size + 1, k, none⟩ = some (T[k]'(by have := HT.out.1; omega)) := by rw [bT.cell k, List.getElem?_eq_getElem]
      have zT := bT.frozen k
      have f1 : (0 : Int) ≤ (k : Int) := by omega
      have f2 : (k : Int) < 96 := by omega
      simp only [List.getElem?_cons_zero] at c2
      have n1 : w.heap.size + 1 < wr.heap.size := bT.lt
      have n2 : w.heap.size + 1 + 1 < wr.heap.size := b2.lt
      have n3 : wr.heap.size ≠ w.heap.size + 1 := by omega
      have n4 : wr.heap.size ≠ w.heap.size + 1 + 1 := by omega
      generalize (T[k]'(by have := HT.out.1; omega)) = old at *
      go_wp2
      go_region
      go_wp2
      go_roundw
      case rel =>
        have hgr : wr.grownBy (wr.setCell ⟨w.heap.size + 1, k, none⟩ (.slice (some ⟨wr.heap.size, 0, none⟩) 128 128)) (some (w.heap.size + 1)) := grown_set
        have hsz : (wr.setCell ⟨w.heap.size + 1, k, none⟩ (.slice (some ⟨wr.heap.size, 0, none⟩) 128 128)).heap.size = wr.heap.size := by simp
        refine ⟨k + 1, T.set k (.slice (some ⟨wr.heap.size, 0, none⟩) 128 128), by go_num, by omega, (bT.set k _).alloc _, ⟨by rw [List.length_set]; exact HT.out.1, fun j hj => ?_⟩, (b0.far (by simp) _).alloc _, (b2.far (by simp) _).alloc _, ((hbl.setCell (by simp) _).alloc (by simp; omega) _).drew⟩
        rw [List.getElem?_set]
        by_cases e : k = j
        · subst e
          rw [if_pos rfl, if_pos (by have := HT.out.1; omega)]
          exact ⟨_, rfl, Bk.newAt _ _ Z (by rw [hsz])⟩
        · rw [if_neg e]
          obtain ⟨g, e1, e2⟩ := HT.out.2 j (by omega)
          refine ⟨g, e1, ((e2.far ?_ _).alloc _)⟩
          intro hg
          have hg' : g = w.heap.size + 1 := hg
          subst hg'
          have e3 := e2.symm.trans bT
          simp at e3
      case measure => simp [intOf]; omega
    · obtain rfl : k = 96 := by omega
      have c2 := b2.cell 0
      have c0 := b0.cell 0
      have z0 := b0.frozen 0
      simp only [List.getElem?_cons_zero] at c2 c0
      go_wp2
      refine bodyPost_ret (v := .agg #[.slice (some ⟨w.heap.size + 1, 0, none⟩) 96 96]) (by simp [results, Try.results28, go_sem, c0]) rfl ⟨_, rfl, ?_, hbl.setCell (by simp) _⟩
      have bT2 := bT.far (p := ⟨w.heap.size, 0, none⟩) (by simp) (.slice (some ⟨w.heap.size + 1, 0, none⟩) 96 96)
      refine ⟨T, ⟨some ⟨w.heap.size + 1, 0, none⟩, 96, by rw [HT.out.1], by rw [HT.out.1]; exact Nat.le_refl _, by simp [maxLen], by simp, fun i hi => ⟨w.heap.size + 1, 0, rfl, bT2.lt, ?_⟩⟩, by rw [HT.out.1, Fr.new_len], fun i hi hi' => ?_⟩
      · rw [Nat.zero_add, bT2.cell, List.getElem?_eq_getElem hi]; rfl
      · obtain ⟨g, e1, e2⟩ := HT.out.2 i (by have := HT.out.1; omega)
        rw [List.getElem?_eq_getElem hi] at e1
        simp only [Option.some.injEq] at e1
        rw [e1, Fr.new_get]
        refine sl_zeros HZ.out (e2.far ?_ _)
        intro hg
        have hg' : g = w.heap.size := hg
        subst hg'
        have e3 := e2.symm.trans b0
        simp at e3
end Go.Proofs.Ytkgheilaleekdaa
