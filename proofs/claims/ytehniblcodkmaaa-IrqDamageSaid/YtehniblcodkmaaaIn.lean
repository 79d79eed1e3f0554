/-
  The walks of to and from of the laws.
-/
import Derived.Test.YtehniblcodkmaaaIm
namespace Go.Proofs.Ytehniblcodkmaaa
open Go.RowKit

theorem at4_el {w : World} {b o : Nat} {e : El} (h : ∀ j, j < 4 → w.cell? ⟨b, o + j, none⟩ = (el e)[j]?) : At4 w b o e.1 e.2.1 e.2.2.1 (.slice e.2.2.2.1 e.2.2.2.2.1 e.2.2.2.2.2) := ⟨h 0 (by omega), h 1 (by omega), h 2 (by omega), h 3 (by omega)⟩


set_option maxRecDepth 20000 in
set_option maxHeartbeats 3200000 in
theorem to_w {m0 m1 m2 m3 m4 : Bool} {u : Value} {ls : List Iq.Ln} {w : World} (h : Lp w u ls) (hm : ls.length ≤ 1000) :
    Calls Try.prog 13 #[.agg #[.bool m0, .bool m1, .bool m2, .bool m3, .bool m4, u]] w fun e w' => ∃ a k, e = .returned (.agg #[.bool m0, .bool m1, .bool m2, .bool m3, .bool m4, .slice a ls.length k]) ∧ Lp w' (.slice a ls.length k) ls ∧ Below w.heap.size w w' := by
  obtain ⟨es, ⟨a, cap, rfl, hc, hcm, hna, hrm⟩, hle, hre⟩ := h
  unfold maxLen at hcm
  have HRM := Lib.hid hrm
  have HRE : Hid (LsR w es ls) := ⟨hle, hre⟩
  have hm' : es.length ≤ 1000 := by omega
  have HLE := Lib.hid hle
  rw [← hle]
  clear hrm hre hle
  obtain ⟨i0, hi, hz0, hz1, hz2⟩ := info_parts Try.infoLine
  have HEF : Hid (∀ g, w.heap.size ≤ g → ∀ e ∈ es, Far g e) := fun g hg e he => by
    obtain ⟨i, hi, rfl⟩ := List.getElem_of_mem he
    exact Far.of_low (HRE.out.2 i hi (by have := HRE.out.1; omega)) hg
  go_enter Try.func13, Try.ntmps13
  go_wp2
  go_loopw [4, 11] (fun _ i wr => ∃ (k : Nat) (v : Value), i = .int .i64 k ∧ k ≤ es.length ∧ Lo wr (w.heap.size + 1 + 1 + 1) 38 v (es.take k) (ls.take k) ∧ Bk wr w.heap.size 25 (stC m0 m1 m2 m3 m4 (.slice a es.length cap)) ∧ Bk wr (w.heap.size + 1) 30 (stC false false false false false (.slice none 0 0)) ∧ Bk wr (w.heap.size + 1 + 1) 30 (stC m0 m1 m2 m3 m4 v) ∧ Below w.heap.size w wr) (fun _ i _ => es.length - (intOf i).toNat)
  case atStart => exact ⟨0, _, rfl, Nat.zero_le _, Lo.nil, ((Bk.new w _ (stC m0 m1 m2 m3 m4 (.slice a es.length cap))).alloc _).alloc _, (Bk.newAt _ _ (stC false false false false false (.slice none 0 0)) (by simp)).alloc _, Bk.newAt _ _ (stC m0 m1 m2 m3 m4 (.slice none 0 0)) (by simp), ((low_alloc w _).alloc (by simp) _).alloc (by simp; omega) _⟩
  case round =>
    obtain ⟨k, v, rfl, hk, ho, b0, b1, b2, hbl⟩ := hrel
    obtain ⟨av, cv, rfl⟩ := own_slice4 ho.own
    have p5 := b0.cell 5
    have r5 := b2.cell 5
    simp only [stC, List.getElem?_cons_zero, List.getElem?_cons_succ] at p5 r5
    have htl : (es.take k).length = k := by rw [List.length_take]; omega
    rw [htl] at ho b2 r5
    have HTL := Lib.hid htl
    clear htl
    by_cases hlt : k < es.length
    · have hlt' : k < ls.length := by have := HLE.out; omega
      obtain ⟨b, off, rfl, hb, hc4⟩ := (HRM.out).form (by omega)
      have h4 := at4_el (hc4 k hlt)
      have h4r := h4.below hbl hb
      have HTE : Hid (es.take (k + 1) = es.take k ++ [es[k]]) := List.take_succ_eq_append_getElem hlt
      have HTS : Hid (ls.take (k + 1) = ls.take k ++ [ls[k]]) := List.take_succ_eq_append_getElem hlt'
      have HEK := Lib.hid (HRE.out.2 k hlt hlt')
      have HEFk : Hid (∀ g, w.heap.size ≤ g → Far g es[k]) := fun g hg => HEF.out g hg _ (List.getElem_mem hlt)
      generalize es[k] = x at *
      obtain ⟨d, t, n, ad, m, c⟩ := x
      generalize ls[k] = y at *
      simp only at h4 h4r
      have HO := Lib.hid ho
      have hown := ho.own
      rw [HTL.out] at hown
      have hbsz := hbl.size
      have HST : Hid (∀ v7 w7, w7.ownsRow (w.heap.size + 1 + 1 + 1) 38 4 v7 (k + 1) ((es.take k ++ [(d, t, n, ad, m, c)]).flatMap el) → Spares ((wr.alloc (.cells #[.int .i64 d, .int .i64 t, .int .i64 n, .slice ad m c] 38 (0, 0))).drew) w7 (.slice av k cv) v7 → Below (w.heap.size + 1 + 1 + 1) ((wr.alloc (.cells #[.int .i64 d, .int .i64 t, .int .i64 n, .slice ad m c] 38 (0, 0))).drew) w7 →
          Bk w7 w.heap.size 25 (stC m0 m1 m2 m3 m4 (.slice (some ⟨b, off, none⟩) es.length cap)) ∧ Bk w7 (w.heap.size + 1 + 1) 30 (stC m0 m1 m2 m3 m4 (.slice av k cv)) ∧ Bk w7 (w.heap.size + 1) 30 (stC false false false false false (.slice none 0 0)) ∧ Below w.heap.size w w7 ∧ Lo (w7.setCell ⟨w.heap.size + 1 + 1, 5, none⟩ v7) (w.heap.size + 1 + 1 + 1) 38 v7 (es.take (k + 1)) (ls.take (k + 1))) := fun v7 w7 ho7 hs7 hb7 => by
        have hX : Below wr.heap.size wr ((wr.alloc (.cells #[.int .i64 d, .int .i64 t, .int .i64 n, .slice ad m c] 38 (0, 0))).drew) := (low_alloc _ _).drew
        have hg0 : ∀ g, g < w.heap.size + 1 + 1 + 1 → w7.heap[g]? = wr.heap[g]? := fun g hg => by
          rw [hb7.block g hg, hX.block g (by have := b2.lt; omega)]
        have hloX := HO.out.low hX
        have h1 := hloX.snoc ((HEK.out.below hbl (Nat.le_refl _)).below hX (Nat.le_refl _)) (fun g hg => HEFk.out g (by have := (hloX.own.lt g hg).1; omega)) (by rw [HTL.out]; exact ho7) hs7
        rw [← HTE.out, ← HTS.out] at h1
        refine ⟨b0.keep (hg0 _ (by omega)), b2.keep (hg0 _ (by omega)), b1.keep (hg0 _ (by omega)), hbl.trans ((hX.mono (by omega)).trans (hb7.mono (by omega))), h1.other (g0 := w.heap.size + 1 + 1) (fun e => by have := (h1.own.lt _ e).1; omega) (fun e he => HEF.out _ (by omega) e (List.mem_of_mem_take he)) fun b hb => Below.heap_setCell _ _ _ _ hb⟩
      have hs0 := b0.lt
      have hs2 := b2.lt
      obtain ⟨c0, c1, c2, c3⟩ := h4r
      have f1 : (0 : Int) ≤ (k : Int) := by omega
      have f2 : (k : Int) < (es.length : Int) := by omega
      have hbr : b < wr.heap.size := by omega
      clear h4 hc4 ho
      go_wp2_with fail
      go_region_law ((refine step_append_m el el_len (by omega) el_one (by rfl) (.tmp 15) (.tmp 21) 28 (by rfl) (w.heap.size + 1 + 1 + 1) 38 i0 (.agg #[.int .i64 0, .int .i64 0, .int .i64 0, .slice none 0 0]) 48 Try.underlying28 hi hz0 hz1 hz2 rfl (.slice av k cv) k (es.take k) (by rfl) (hown.alloc _) (some ⟨wr.heap.size, 0, none⟩) 1 [(d, t, n, ad, m, c)] 1 (by rfl) rfl (by simp) (by omega) (Rm.one (enc := el) wr (d, t, n, ad, m, c) _ _ rfl) (by unfold maxLen; omega) (by omega) (by simp; omega) ?_; intro v7 w7 ho7 hs7 hb7; obtain ⟨a7, c7, rfl⟩ := own_slice4 ho7; obtain ⟨hb07, hb27, hb17, hbl7, hlo7⟩ := HST.out _ w7 ho7 hs7 hb7; have r57 := hb27.box.p5; have z57 := hb27.box.z5))
      all_goals
        have n0 := hb07.far (p := ⟨w.heap.size + 1 + 1, 5, none⟩) (by simp; omega) (.slice a7 (k + 1) c7)
        have n1 := hb17.far (p := ⟨w.heap.size + 1 + 1, 5, none⟩) (by simp) (.slice a7 (k + 1) c7)
        have n2 := hb27.set 5 (.slice a7 (k + 1) c7)
        have n3 := hbl7.setCell (p := ⟨w.heap.size + 1 + 1, 5, none⟩) (by simp; omega) (.slice a7 (k + 1) c7)
        clear ho7 hs7 hb7 hb07 hb27 hb17 hbl7 HST
        go_wp2
        go_roundw
        case rel => exact ⟨k + 1, _, by go_num, by omega, hlo7, n0, n1, n2, n3⟩
        case measure => simp [intOf]; omega
    · obtain rfl : k = es.length := by omega
      obtain ⟨q0, q1, q2, q3, q4, q5, -⟩ := b2.box
      obtain ⟨o0, o1, o2, o3, o4, o5, z0, z1, z2, z3, z4, z5⟩ := b1.box
      rw [List.take_length] at ho
      have hll : ls.take es.length = ls := List.take_of_length_le (by have := HLE.out; omega)
      rw [hll] at ho
      have HFIN : Hid (∀ W9, (∀ b, b ≠ w.heap.size + 1 → W9.heap[b]? = wr.heap[b]?) → Lp W9 (.slice av es.length cv) ls) := fun W9 hk9 =>
        (ho.other (w' := W9) (g0 := w.heap.size + 1) (fun e => by have := (ho.own.lt _ e).1; omega) (HEF.out _ (by omega)) hk9).lp
      clear ho hll
      go_wp2
      exact bodyPost_ret (v := .agg #[.bool m0, .bool m1, .bool m2, .bool m3, .bool m4, .slice av es.length cv]) (by simp [results, Try.results13, go_sem, o0, o1, o2, o3, o4, o5]) rfl ⟨_, _, rfl, HFIN.out _ fun b hb => set6_heap hb _ _ _ _ _ _, set6 hbl (by omega) _ _ _ _ _ _⟩

set_option maxRecDepth 20000 in
set_option maxHeartbeats 3200000 in
theorem from_w {m0 m1 m2 m3 m4 : Bool} {u : Value} {ls : List Iq.Ln} {w : World} (h : Lp w u ls) (hm : ls.length ≤ 1000) :
    Calls Try.prog 18 #[.agg #[.bool m0, .bool m1, .bool m2, .bool m3, .bool m4, u]] w fun e w' => ∃ a k, e = .returned (.agg #[.bool m0, .bool m1, .bool m2, .bool m3, .bool m4, .slice a ls.length k]) ∧ Lp w' (.slice a ls.length k) ls ∧ Below w.heap.size w w' := by
  obtain ⟨es, ⟨a, cap, rfl, hc, hcm, hna, hrm⟩, hle, hre⟩ := h
  unfold maxLen at hcm
  have HRM := Lib.hid hrm
  have HRE : Hid (LsR w es ls) := ⟨hle, hre⟩
  have hm' : es.length ≤ 1000 := by omega
  have HLE := Lib.hid hle
  rw [← hle]
  clear hrm hre hle
  obtain ⟨i0, hi, hz0, hz1, hz2⟩ := info_parts Try.infoRLine
  have HEF : Hid (∀ g, w.heap.size ≤ g → ∀ e ∈ es, Far g e) := fun g hg e he => by
    obtain ⟨i, hi, rfl⟩ := List.getElem_of_mem he
    exact Far.of_low (HRE.out.2 i hi (by have := HRE.out.1; omega)) hg
  go_enter Try.func18, Try.ntmps18
  go_wp2
  go_loopw [4, 11] (fun _ i wr => ∃ (k : Nat) (v : Value), i = .int .i64 k ∧ k ≤ es.length ∧ Lo wr (w.heap.size + 1 + 1 + 1) 37 v (es.take k) (ls.take k) ∧ Bk wr w.heap.size 30 (stC m0 m1 m2 m3 m4 (.slice a es.length cap)) ∧ Bk wr (w.heap.size + 1) 25 (stC false false false false false (.slice none 0 0)) ∧ Bk wr (w.heap.size + 1 + 1) 25 (stC m0 m1 m2 m3 m4 v) ∧ Below w.heap.size w wr) (fun _ i _ => es.length - (intOf i).toNat)
  case atStart => exact ⟨0, _, rfl, Nat.zero_le _, Lo.nil, ((Bk.new w _ (stC m0 m1 m2 m3 m4 (.slice a es.length cap))).alloc _).alloc _, (Bk.newAt _ _ (stC false false false false false (.slice none 0 0)) (by simp)).alloc _, Bk.newAt _ _ (stC m0 m1 m2 m3 m4 (.slice none 0 0)) (by simp), ((low_alloc w _).alloc (by simp) _).alloc (by simp; omega) _⟩
  case round =>
    obtain ⟨k, v, rfl, hk, ho, b0, b1, b2, hbl⟩ := hrel
    obtain ⟨av, cv, rfl⟩ := own_slice4 ho.own
    have p5 := b0.cell 5
    have r5 := b2.cell 5
    simp only [stC, List.getElem?_cons_zero, List.getElem?_cons_succ] at p5 r5
    have htl : (es.take k).length = k := by rw [List.length_take]; omega
    rw [htl] at ho b2 r5
    have HTL := Lib.hid htl
    clear htl
    by_cases hlt : k < es.length
    · have hlt' : k < ls.length := by have := HLE.out; omega
      obtain ⟨b, off, rfl, hb, hc4⟩ := (HRM.out).form (by omega)
      have h4 := at4_el (hc4 k hlt)
      have h4r := h4.below hbl hb
      have HTE : Hid (es.take (k + 1) = es.take k ++ [es[k]]) := List.take_succ_eq_append_getElem hlt
      have HTS : Hid (ls.take (k + 1) = ls.take k ++ [ls[k]]) := List.take_succ_eq_append_getElem hlt'
      have HEK := Lib.hid (HRE.out.2 k hlt hlt')
      have HEFk : Hid (∀ g, w.heap.size ≤ g → Far g es[k]) := fun g hg => HEF.out g hg _ (List.getElem_mem hlt)
      generalize es[k] = x at *
      obtain ⟨d, t, n, ad, m, c⟩ := x
      generalize ls[k] = y at *
      simp only at h4 h4r
      have HO := Lib.hid ho
      have hown := ho.own
      rw [HTL.out] at hown
      have hbsz := hbl.size
      have HST : Hid (∀ v7 w7, w7.ownsRow (w.heap.size + 1 + 1 + 1) 37 4 v7 (k + 1) ((es.take k ++ [(d, t, n, ad, m, c)]).flatMap el) → Spares ((wr.alloc (.cells #[.int .i64 d, .int .i64 t, .int .i64 n, .slice ad m c] 37 (0, 0))).drew) w7 (.slice av k cv) v7 → Below (w.heap.size + 1 + 1 + 1) ((wr.alloc (.cells #[.int .i64 d, .int .i64 t, .int .i64 n, .slice ad m c] 37 (0, 0))).drew) w7 →
          Bk w7 w.heap.size 30 (stC m0 m1 m2 m3 m4 (.slice (some ⟨b, off, none⟩) es.length cap)) ∧ Bk w7 (w.heap.size + 1 + 1) 25 (stC m0 m1 m2 m3 m4 (.slice av k cv)) ∧ Bk w7 (w.heap.size + 1) 25 (stC false false false false false (.slice none 0 0)) ∧ Below w.heap.size w w7 ∧ Lo (w7.setCell ⟨w.heap.size + 1 + 1, 5, none⟩ v7) (w.heap.size + 1 + 1 + 1) 37 v7 (es.take (k + 1)) (ls.take (k + 1))) := fun v7 w7 ho7 hs7 hb7 => by
        have hX : Below wr.heap.size wr ((wr.alloc (.cells #[.int .i64 d, .int .i64 t, .int .i64 n, .slice ad m c] 37 (0, 0))).drew) := (low_alloc _ _).drew
        have hg0 : ∀ g, g < w.heap.size + 1 + 1 + 1 → w7.heap[g]? = wr.heap[g]? := fun g hg => by
          rw [hb7.block g hg, hX.block g (by have := b2.lt; omega)]
        have hloX := HO.out.low hX
        have h1 := hloX.snoc ((HEK.out.below hbl (Nat.le_refl _)).below hX (Nat.le_refl _)) (fun g hg => HEFk.out g (by have := (hloX.own.lt g hg).1; omega)) (by rw [HTL.out]; exact ho7) hs7
        rw [← HTE.out, ← HTS.out] at h1
        refine ⟨b0.keep (hg0 _ (by omega)), b2.keep (hg0 _ (by omega)), b1.keep (hg0 _ (by omega)), hbl.trans ((hX.mono (by omega)).trans (hb7.mono (by omega))), h1.other (g0 := w.heap.size + 1 + 1) (fun e => by have := (h1.own.lt _ e).1; omega) (fun e he => HEF.out _ (by omega) e (List.mem_of_mem_take he)) fun b hb => Below.heap_setCell _ _ _ _ hb⟩
      have hs0 := b0.lt
      have hs2 := b2.lt
      obtain ⟨c0, c1, c2, c3⟩ := h4r
      have f1 : (0 : Int) ≤ (k : Int) := by omega
      have f2 : (k : Int) < (es.length : Int) := by omega
      have hbr : b < wr.heap.size := by omega
      clear h4 hc4 ho
      go_wp2_with fail
      go_region_law ((refine step_append_m el el_len (by omega) el_one (by rfl) (.tmp 15) (.tmp 21) 23 (by rfl) (w.heap.size + 1 + 1 + 1) 37 i0 (.agg #[.int .i64 0, .int .i64 0, .int .i64 0, .slice none 0 0]) 48 Try.underlying23 hi hz0 hz1 hz2 rfl (.slice av k cv) k (es.take k) (by rfl) (hown.alloc _) (some ⟨wr.heap.size, 0, none⟩) 1 [(d, t, n, ad, m, c)] 1 (by rfl) rfl (by simp) (by omega) (Rm.one (enc := el) wr (d, t, n, ad, m, c) _ _ rfl) (by unfold maxLen; omega) (by omega) (by simp; omega) ?_; intro v7 w7 ho7 hs7 hb7; obtain ⟨a7, c7, rfl⟩ := own_slice4 ho7; obtain ⟨hb07, hb27, hb17, hbl7, hlo7⟩ := HST.out _ w7 ho7 hs7 hb7; have r57 := hb27.box.p5; have z57 := hb27.box.z5))
      all_goals
        have n0 := hb07.far (p := ⟨w.heap.size + 1 + 1, 5, none⟩) (by simp; omega) (.slice a7 (k + 1) c7)
        have n1 := hb17.far (p := ⟨w.heap.size + 1 + 1, 5, none⟩) (by simp) (.slice a7 (k + 1) c7)
        have n2 := hb27.set 5 (.slice a7 (k + 1) c7)
        have n3 := hbl7.setCell (p := ⟨w.heap.size + 1 + 1, 5, none⟩) (by simp; omega) (.slice a7 (k + 1) c7)
        clear ho7 hs7 hb7 hb07 hb27 hb17 hbl7 HST
        go_wp2
        go_roundw
        case rel => exact ⟨k + 1, _, by go_num, by omega, hlo7, n0, n1, n2, n3⟩
        case measure => simp [intOf]; omega
    · obtain rfl : k = es.length := by omega
      obtain ⟨q0, q1, q2, q3, q4, q5, -⟩ := b2.box
      obtain ⟨o0, o1, o2, o3, o4, o5, z0, z1, z2, z3, z4, z5⟩ := b1.box
      rw [List.take_length] at ho
      have hll : ls.take es.length = ls := List.take_of_length_le (by have := HLE.out; omega)
      rw [hll] at ho
      have HFIN : Hid (∀ W9, (∀ b, b ≠ w.heap.size + 1 → W9.heap[b]? = wr.heap[b]?) → Lp W9 (.slice av es.length cv) ls) := fun W9 hk9 =>
        (ho.other (w' := W9) (g0 := w.heap.size + 1) (fun e => by have := (ho.own.lt _ e).1; omega) (HEF.out _ (by omega)) hk9).lp
      clear ho hll
      go_wp2
      exact bodyPost_ret (v := .agg #[.bool m0, .bool m1, .bool m2, .bool m3, .bool m4, .slice av es.length cv]) (by simp [results, Try.results18, go_sem, o0, o1, o2, o3, o4, o5]) rfl ⟨_, _, rfl, HFIN.out _ fun b hb => set6_heap hb _ _ _ _ _ _, set6 hbl (by omega) _ _ _ _ _ _⟩
end Go.Proofs.Ytehniblcodkmaaa
