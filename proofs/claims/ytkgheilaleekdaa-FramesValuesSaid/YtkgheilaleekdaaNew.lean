/-
  The walks of frames.New and frames.copied.
-/
import Derived.Test.YtkgheilaleekdaaFew
import Derived.Test.YtkgheilaleekdaaBytes
namespace Go.Proofs.Ytkgheilaleekdaa
open Go.RowKit

/-- The memory that frames.New lays: block h is the table, block g holds all bytes. -/
structure Fm (w : World) (g h : Nat) (ps : List (List UInt8)) : Prop where
  len : ps.length = 96
  pl : ∀ i (hi : i < ps.length), ps[i].length = 128
  row : ∃ cur : List Value, Bk w g 5 cur ∧ cur.length = 12288 ∧ ∀ i (hi : i < ps.length) k (hk : k < ps[i].length), cur[i * 128 + k]? = some (eb ps[i][k])
  tab : ∃ T : List Value, Bk w h 27 T ∧ T.length = 96 ∧ ∀ i, i < 96 → T[i]? = some (.slice (some ⟨g, i * 128, none⟩) 128 128)

theorem toList_made (z : Value) (n : Nat) : madeCells #[z] n = (List.replicate n z).toArray := by
  apply Array.toList_inj.1
  rw [toList_madeCells_one]

theorem Try.info27 : (Try.prog.info? 27).map (fun i => (i.zero, i.size, i.bytes)) = some (some (.slice none 0 0), 1, 24) := by kernel_rfl

set_option maxRecDepth 20000 in
set_option maxHeartbeats 800000 in
theorem new_w (w : World) :
    Calls Try.prog 27 #[] w fun e w' => ∃ g h, e = .returned (.agg #[.slice (some ⟨h, 0, none⟩) 96 96]) ∧ w.heap.size ≤ g ∧ w.heap.size ≤ h ∧ g ≠ h ∧ Fm w' g h Fr.new ∧ Below w.heap.size w w' := by
  obtain ⟨i5, hi5, hz5, hs5, hb5⟩ := info_parts Try.info5
  obtain ⟨i27, hi27, hz27, hs27, hb27⟩ := info_parts Try.info27
  obtain ⟨Z1, hZ1⟩ : ∃ Z : List Value, Z = List.replicate 12288 (.int .u8 0) := ⟨_, rfl⟩
  obtain ⟨Z2, hZ2⟩ : ∃ Z : List Value, Z = List.replicate 96 (.slice none 0 0) := ⟨_, rfl⟩
  have hm1 : ∀ W : World, (Instr.makeSlice 27 (.int .i64 12288) (.int .i64 12288)).run Try.prog W = .ok (.slice (some ⟨W.heap.size, 0, none⟩) 12288 12288) (W.alloc (.cells Z1.toArray 5 (0, 0))) := fun W => by
    have h := run_make (P := Try.prog) W 27 5 i5 (.int .u8 0) Try.underlying27 hi5 hz5 .i64 .i64 12288 12288 (by decide) (by decide) (by rw [hb5]; decide) (by decide)
    rw [hs5] at h
    rw [hZ1, ← toList_made]
    exact h
  have hm2 : ∀ W : World, (Instr.makeSlice 22 (.int .i64 96) (.int .i64 96)).run Try.prog W = .ok (.slice (some ⟨W.heap.size, 0, none⟩) 96 96) (W.alloc (.cells Z2.toArray 27 (0, 0))) := fun W => by
    have h := run_make (P := Try.prog) W 22 27 i27 (.slice none 0 0) Try.underlying22 hi27 hz27 .i64 .i64 96 96 (by decide) (by decide) (by rw [hb27]; decide) (by decide)
    rw [hs27] at h
    rw [hZ2, ← toList_made]
    exact h
  have HZ1 := Lib.hid hZ1
  have HZ2 := Lib.hid hZ2
  clear hZ1 hZ2 hi5 hz5 hs5 hb5 hi27 hz27 hs27 hb27
  go_enter Try.func27, Try.ntmps27
  go_wp2
  go_loopw [3, 10] (fun _ s10 wr => ∃ (k : Nat) (T : List Value), s10 = .int .i64 k ∧ k ≤ 96 ∧ Bk wr (w.heap.size + 1 + 1) 27 T ∧ Hid (T.length = 96 ∧ ∀ j, j < k → T[j]? = some (.slice (some ⟨w.heap.size + 1, j * 128, none⟩) 128 128)) ∧ Bk wr (w.heap.size + 1) 5 Z1 ∧ Bk wr w.heap.size 30 [.slice none 0 0] ∧ Bk wr (w.heap.size + 1 + 1 + 1) 30 [.slice (some ⟨w.heap.size + 1 + 1, 0, none⟩) 96 96] ∧ Below w.heap.size w wr) (fun _ s10 _ => 96 - (intOf s10).toNat)
  case atStart =>
    refine ⟨0, Z2, rfl, Nat.zero_le _, ?_, ⟨by rw [HZ2.out]; simp, fun j hj => absurd hj (Nat.not_lt_zero _)⟩, ?_, ?_, ?_, ?_⟩
    · exact ((Bk.newAt _ _ Z2 (by simp)).alloc _)
    · exact (((Bk.newAt _ _ Z1 (by simp)).alloc _).alloc _)
    · exact ((((Bk.new w _ [.slice none 0 0]).alloc _).alloc _).alloc _)
    · exact Bk.newAt _ _ [_] (by simp)
    · exact ((((Below.refl _ w).alloc (Nat.le_refl _) _).alloc (by simp) _).alloc (by simp; omega) _).alloc (by simp; omega) _
  case round =>
    obtain ⟨k, T, rfl, hk, bT, HT, b1, b0, b3, hbl⟩ := hrel
    by_cases hlt : k < 96
    · have c3 := b3.cell 0
      have c2 : wr.cell? ⟨w.heap.size + 1 + 1, k, none⟩ = some (T[k]'(by have := HT.out.1; omega)) := by rw [bT.cell k, List.getElem?_eq_getElem]
      have z2 := bT.frozen k
      have f1 : (0 : Int) ≤ (k : Int) := by omega
      have f2 : (k : Int) < 96 := by omega
      simp only [List.getElem?_cons_zero] at c3
      generalize (T[k]'(by have := HT.out.1; omega)) = old at *
      go_wp2
      go_region
      go_wp2
      go_roundw
      case rel =>
        refine ⟨k + 1, T.set k (.slice (some ⟨w.heap.size + 1, k * 128, none⟩) ((k + 1) * 128 - k * 128) ((k + 1) * 128 - k * 128)), by go_num, by omega, bT.set k _, ⟨by rw [List.length_set]; exact HT.out.1, fun j hj => ?_⟩, b1.far (by simp) _, b0.far (by simp; omega) _, b3.far (by simp) _, (hbl.setCell (by simp; omega) _).drew⟩
        rw [List.getElem?_set]
        by_cases e : k = j
        · subst e
          rw [if_pos rfl, if_pos (by have := HT.out.1; omega), show (k + 1) * 128 - k * 128 = 128 by omega]
        · rw [if_neg e]; exact HT.out.2 j (by omega)
      case measure => simp [intOf]; omega
    · obtain rfl : k = 96 := by omega
      have c3 := b3.cell 0
      have c0 := b0.cell 0
      have z0 := b0.frozen 0
      simp only [List.getElem?_cons_zero] at c3 c0
      go_wp2
      refine bodyPost_ret (v := .agg #[.slice (some ⟨w.heap.size + 1 + 1, 0, none⟩) 96 96]) (by simp [results, Try.results27, go_sem, c0]) rfl ⟨w.heap.size + 1, w.heap.size + 1 + 1, rfl, by omega, by omega, by omega, ?_, hbl.setCell (by simp) _⟩
      refine ⟨Fr.new_len, fun i hi => by rw [Fr.new_get, Fr.zeros_len], ⟨Z1, b1.far (by simp) _, by rw [HZ1.out, List.length_replicate], fun i hi j hj => ?_⟩, ⟨T, bT.far (by simp; omega) _, HT.out.1, fun i hi => HT.out.2 i hi⟩⟩
      have hi' : i < 96 := by rw [Fr.new_len] at hi; exact hi
      have hj' : j < 128 := by rw [Fr.new_get i hi, Fr.zeros_len] at hj; exact hj
      rw [HZ1.out, List.getElem?_replicate, if_pos (by omega)]
      have e : ∀ (l : List UInt8) (h : j < l.length), l = Fr.zeros → eb l[j] = .int .u8 0 := fun l h e => by subst e; rw [Fr.zeros_get]; rfl
      rw [e _ hj (Fr.new_get i hi)]
end Go.Proofs.Ytkgheilaleekdaa
