/-
  The walk of New of disk.
-/
import Derived.Test.YteeoonoccklhmaaCi
import Derived.Test.YteeoonoccklhmaaDf
import Derived.Test.YteeoonoccklhmaaByt
namespace Dk
/-- The bytes of a new disk. -/
def fillB (xs : List UInt8) : List UInt8 := xs ++ List.replicate (20480 - xs.length) 0
/-- The blocks of a row of bytes. -/
def cutB (l : List UInt8) : List (List UInt8) := (List.range 160).map fun i => (l.drop (128 * i)).take 128
def new (xs : List UInt8) : St × Int := if 20480 < xs.length then (zst, 6) else ((cutB (fillB xs), zch), 0)
theorem fill_len {xs : List UInt8} (h : xs.length ≤ 20480) : (fillB xs).length = 20480 := by unfold fillB; simp; omega
theorem cut_len (l : List UInt8) : (cutB l).length = 160 := by simp [cutB]
theorem cut_get (l : List UInt8) (i : Nat) (hi : i < 160) : (cutB l)[i]'(by simp [cutB]; exact hi) = (l.drop (128 * i)).take 128 := by simp [cutB]
theorem cut_all {l : List UInt8} (h : l.length = 20480) (i : Nat) (hi : i < 160) : ((l.drop (128 * i)).take 128).length = 128 := by simp; omega
theorem cut_valid {l : List UInt8} (h : l.length = 20480) : valid (cutB l, zch) = true := by
  have h2 : all128 (cutB l) = true := by
    unfold all128
    rw [List.all_eq_true]
    intro x hx
    obtain ⟨i, hi, rfl⟩ := List.getElem_of_mem hx
    have hi' : i < 160 := by rw [cut_len] at hi; exact hi
    rw [cut_get l i hi']
    simp only [decide_eq_true_eq]
    exact cut_all h i hi'
  unfold valid
  simp only [cut_len, h2]
  rfl
end Dk
namespace Go.Proofs.Yteeoonoccklhmaa
open Go.RowKit

theorem sz5 : (Try.prog.info? 5).map (·.size) = some 1 := by kernel_rfl
theorem toList_made (z : Value) (n : Nat) : madeCells #[z] n = (List.replicate n z).toArray := by
  apply Array.toList_inj.1
  rw [toList_madeCells_one]

/-- A row of 20480 bytes in block b, cut. -/
theorem cut_rows {W : World} {b : Nat} {l : List UInt8} (hl : l.length = 20480) (hb : Bk W b 5 (l.map eb)) :
    ∀ i (h : i < (upto (chk b) 160).length) (h' : i < (Dk.cutB l).length), Sl eb W (et ((upto (chk b) 160)[i]'h)) ((Dk.cutB l)[i]'h') := fun i h h' => by
  have hi : i < 160 := by rw [Dk.cut_len] at h'; exact h'
  rw [Dk.cut_get l i hi]
  have he : (upto (chk b) 160)[i]'h = chk b i := by simp [upto]
  rw [he]
  have h128 := Dk.cut_all hl i hi
  refine ⟨some ⟨b, 128 * i, none⟩, 128, by rw [h128]; rfl, by rw [h128]; exact Nat.le_refl _, by unfold maxLen; omega, by simp, fun k hk => ⟨b, 128 * i, rfl, hb.lt, ?_⟩⟩
  rw [h128] at hk
  rw [hb.cell, List.getElem?_map]
  have : l[128 * i + k]? = some (((l.drop (128 * i)).take 128)[k]'(by rw [h128]; exact hk)) := by
    rw [List.getElem_take, List.getElem_drop, List.getElem?_eq_getElem (by omega)]
  rw [this]
  rfl

set_option maxRecDepth 100000 in
set_option maxHeartbeats 1600000 in
theorem new_w {u : Value} {xs : List UInt8} {w : World} (hx : Sl eb w u xs) (hm : xs.length ≤ 1000000) {X : Nat → Prop} (hX : ∀ b, X b → b < w.heap.size) :
    Calls Try.prog 22 #[u] w (RetDo w X (Dk.new xs)) := by
  obtain ⟨a, c, rfl, hc, hcm, hna, -⟩ := id hx
  unfold maxLen at hcm
  have HX := Lib.hid hx
  have HXX := Lib.hid hX
  clear hx hX
  obtain ⟨i5, hi5, hz5, hs5, hb5⟩ := info_parts Try.info5
  obtain ⟨Z1, hZ1⟩ : ∃ Z : List Value, Z = List.replicate 20480 (.int .u8 0) := ⟨_, rfl⟩
  have hm1 : ∀ W : World, (Instr.makeSlice 23 (.int .i64 20480) (.int .i64 20480)).run Try.prog W = .ok (.slice (some ⟨W.heap.size, 0, none⟩) 20480 20480) (W.alloc (.cells Z1.toArray 5 (0, 0))) := fun W => by
    have h := run_make (P := Try.prog) W 23 5 i5 (.int .u8 0) Try.underlying23 hi5 hz5 .i64 .i64 20480 20480 (by decide) (by decide) (by rw [hb5]; decide) (by decide)
    rw [hs5] at h
    rw [hZ1, ← toList_made]
    exact h
  have HZ1 := Lib.hid hZ1
  clear hZ1 hi5 hz5 hs5 hb5
  obtain ⟨W0, hW0⟩ : ∃ W0, W0 = (w.alloc (.cells #[.slice none 0 0, .bool false, .int .i64 0, .int .i64 0, .int .i64 0, .slice none 0 0, .int .i64 0, .int .i64 0, .int .i64 0, .slice none 0 0] 39 (0, 0))).alloc (.cells Z1.toArray 5 (0, 0)) := ⟨_, rfl⟩
  have hR : Bk W0 w.heap.size 39 (dkC (.slice none 0 0) false 0 0 0 (.slice none 0 0) 0 0 0 (.slice none 0 0)) := by rw [hW0]; exact (Bk.new w _ (dkC _ _ _ _ _ _ _ _ _ _)).alloc _
  have hB : Bk W0 (w.heap.size + 1) 5 Z1 := by rw [hW0]; exact Bk.newAt _ _ Z1 (by simp)
  have hL : Below w.heap.size w W0 := by rw [hW0]; exact (low_alloc _ _).alloc (by simp) _
  have hsz : W0.heap.size = w.heap.size + 1 + 1 := by rw [hW0]; simp
  have HR := Lib.hid hR
  have HB := Lib.hid hB
  have HL := Lib.hid hL
  have HSZ := Lib.hid hsz
  clear hR hB hL hsz
  by_cases hbig : 20480 < xs.length
  · have hn : Dk.new xs = (Dk.zst, 6) := by unfold Dk.new; rw [if_pos hbig]
    rw [hn]
    have q0 : (20480 : Int) < (xs.length : Int) := by omega
    have HW0 := Lib.hid hW0
    clear hW0 hbig hn
    go_enter Try.func22, Try.ntmps22
    go_upto_region 2 with fail
    rw [← HW0.out]
    obtain ⟨⟨r0, r1, r2, r3, r4, r5, r6, r7, r8, r9⟩, z0, z1, z2, z3, z4, z5, z6, z7, z8, z9⟩ := Bk.fd HR.out
    go_wp2_with fail
    refine bodyPost_ret (v := .tuple #[.agg #[.slice none 0 0, .bool false, .int .i64 0, .int .i64 0, .int .i64 0, .slice none 0 0, .int .i64 0, .int .i64 0, .int .i64 0, .slice none 0 0], .int .i64 6]) (by simp [results, Try.results22, go_sem, r0, r1, r2, r3, r4, r5, r6, r7, r8, r9]) rfl ⟨_, _, _, _, rfl, Dw.nil, ?_⟩
    exact set10 HL.out (by omega) _ _ _ _ _ _ _ _ _ _
  · have hle : xs.length ≤ 20480 := by omega
    have hn : Dk.new xs = ((Dk.cutB (Dk.fillB xs), Dk.zch), 0) := by unfold Dk.new; rw [if_neg hbig]
    rw [hn]
    have q0 : ¬ (20480 : Int) < (xs.length : Int) := by omega
    have HW0 := Lib.hid hW0
    have HLE := Lib.hid hle
    clear hW0 hbig hn
    go_enter Try.func22, Try.ntmps22
    go_upto_region 2 with fail
    rw [← HW0.out]
    have hrd0 : Rd eb W0 a xs := by
      obtain ⟨a', c', e1, _, _, _, e5⟩ := HX.out.below HL.out (Nat.le_refl _)
      injection e1 with e1 _ _
      rw [e1]; exact e5
    have hB0 := HB.out
    have hZL : Z1.length = 20480 := by rw [HZ1.out]; simp
    go_upto_region 5 with (refine wpList_copy_rd eb (fun _ => rfl) rfl (.tmp 12) (.tmp 13) 23 23 rfl 5 Try.underlying23 sz5 (some ⟨w.heap.size + 1, 0, none⟩) (w.heap.size + 1) 0 20480 20480 a xs xs.length c xs.length rfl rfl rfl (Nat.min_eq_left HLE.out) (fun _ => rfl) hrd0 Z1 5 hB0 (by rw [Nat.zero_add, HZ1.out, List.length_replicate]; exact HLE.out) ?_; intro w1 hb1 hg1)
    have hB1 : Bk w1 (w.heap.size + 1) 5 ((Dk.fillB xs).map eb) := by
      have : splice Z1 0 ((xs.take xs.length).map eb) = (Dk.fillB xs).map eb := by
        unfold splice Dk.fillB
        rw [HZ1.out, List.take_length, List.take_zero, List.nil_append, Nat.zero_add, List.length_map, List.map_append, List.map_replicate, List.drop_replicate]
        rfl
      rw [← this]
      exact hb1
    have hR1 := HR.out.grown hg1 (by simp)
    have hl1 : Below w.heap.size w w1 := HL.out.trans (below_of_grown hg1 (by omega) HL.out.size)
    have hs1 : w.heap.size + 1 + 1 ≤ w1.heap.size := by have := hg1.size; have := HSZ.out; omega
    clear hb1 hg1 hB0 hZL hrd0
    go_wp2_with (go_at_call 46; (with_reducible refine (cut_w (w.heap.size + 1) w1).mono ?_); rintro e w2 ⟨v2, rfl, ho2, hb2⟩; obtain ⟨a2, k2, rfl⟩ := own_slice ho2; obtain ⟨⟨r0, r1, r2, r3, r4, r5, r6, r7, r8, r9⟩, z0, z1, z2, z3, z4, z5, z6, z7, z8, z9⟩ := Bk.fd (hR1.below hb2 hR1.lt))
    have hB2 := hB1.below hb2 hB1.lt
    have hl2 := stepAny hl1 hb2
    have hg2 : ∀ k, (Value.slice a2 160 k2).ownBlock = some k → w.heap.size + 1 + 1 ≤ k := fun k hk => by have := (ho2.lt k hk).1; omega
    have hB3 := hB2.keep (set10_heap (W := w2) (b := w.heap.size) (k := w.heap.size + 1) (by omega) (.slice a2 160 k2) (.bool false) (.int .i64 0) (.int .i64 0) (.int .i64 0) (.slice none 0 0) (.int .i64 0) (.int .i64 0) (.int .i64 0) (.slice none 0 0))
    have ho3 := own_keep (own_down (base' := w.heap.size) ho2 (by omega)) (fun k hk => set10_heap (W := w2) (b := w.heap.size) (k := k) (by have := hg2 k hk; omega) (.slice a2 160 k2) (.bool false) (.int .i64 0) (.int .i64 0) (.int .i64 0) (.slice none 0 0) (.int .i64 0) (.int .i64 0) (.int .i64 0) (.slice none 0 0))
    have hl3 := set10 hl2 (Nat.le_refl _) (.slice a2 160 k2) (.bool false) (.int .i64 0) (.int .i64 0) (.int .i64 0) (.slice none 0 0) (.int .i64 0) (.int .i64 0) (.int .i64 0) (.slice none 0 0)
    exact bodyPost_ret (v := .tuple #[.agg #[.slice a2 160 k2, .bool false, .int .i64 0, .int .i64 0, .int .i64 0, .slice none 0 0, .int .i64 0, .int .i64 0, .int .i64 0, .slice none 0 0], .int .i64 0]) (by simp [results, Try.results22, go_sem, r0, r1, r2, r3, r4, r5, r6, r7, r8, r9]) rfl
      ⟨_, _, _, upto (chk (w.heap.size + 1)) 160, rfl, ⟨by rw [upto_length]; exact ho3, by rw [upto_length]; exact (Dk.cut_len _).symm, fun W hW => cut_rows (Dk.fill_len HLE.out) (hB3.keep (hW _ hB3.lt fun hx => by have := HXX.out _ hx; omega)), World.ownsRow_nil _ _ _ _, World.ownsRow_nil _ _ _ _⟩, hl3⟩
end Go.Proofs.Yteeoonoccklhmaa
