/-
  The walk of the reference's New.
-/
import Derived.Test.YteeoonoccklhmaaRdo
import Derived.Test.YteeoonoccklhmaaNewd
namespace Dk
/-- Row i of which the first m bytes have been laid. -/
def part (F : List UInt8) (i m : Nat) : List UInt8 := (F.drop (128 * i)).take m ++ List.replicate (128 - m) 0
theorem part_zero (F : List UInt8) (i : Nat) : part F i 0 = List.replicate 128 0 := by simp [part]
theorem part_full (F : List UInt8) (i : Nat) : part F i 128 = (F.drop (128 * i)).take 128 := by simp [part]
theorem part_len {F : List UInt8} (hF : F.length = 20480) {i m : Nat} (hi : i < 160) (hm : m ≤ 128) : (part F i m).length = 128 := by
  unfold part
  rw [List.length_append, List.length_take, List.length_drop, List.length_replicate, hF, Nat.min_eq_left (by omega)]
  omega
theorem part_step {F : List UInt8} (hF : F.length = 20480) {i m : Nat} (hi : i < 160) (hm : m < 128) {x : UInt8} (hx : F[i * 128 + m]? = some x) : (part F i m).set m x = part F i (m + 1) := by
  unfold part
  have hl : ((F.drop (128 * i)).take m).length = m := by rw [List.length_take, List.length_drop, hF]; omega
  rw [List.set_append, if_neg (by omega), hl, Nat.sub_self]
  obtain ⟨q, hq⟩ : ∃ q, 128 - m = q + 1 := ⟨127 - m, by omega⟩
  rw [hq, show 128 - (m + 1) = q by omega, List.replicate_succ, List.set_cons_zero]
  have h2 : (F.drop (128 * i)).take (m + 1) = (F.drop (128 * i)).take m ++ [x] := by
    rw [List.take_add_one, List.getElem?_drop, show 128 * i + m = i * 128 + m by omega, hx]
    rfl
  rw [h2, List.append_assoc]
  rfl
theorem fill_get {xs : List UInt8} {k : Nat} (h : k < xs.length) : (fillB xs)[k]? = some xs[k] := by
  unfold fillB
  rw [List.getElem?_append_left h, List.getElem?_eq_getElem h]
theorem part_end {xs : List UInt8} (hl : xs.length ≤ 20480) {i m : Nat} (hi : i < 160) (hm : m ≤ 128) (h : xs.length ≤ i * 128 + m) : part (fillB xs) i m = ((fillB xs).drop (128 * i)).take 128 := by
  have hF := fill_len hl
  apply List.ext_getElem?
  intro j
  by_cases hj : j < 128
  · by_cases hjm : j < m
    · unfold part
      rw [List.getElem?_append_left (by rw [List.length_take, List.length_drop, hF]; omega), List.getElem?_take, List.getElem?_take, if_pos hjm, if_pos hj]
    · unfold part
      rw [List.getElem?_append_right (by rw [List.length_take, List.length_drop, hF]; omega), List.length_take, List.length_drop, hF, Nat.min_eq_left (by omega), List.getElem?_replicate, if_pos (by omega), List.getElem?_take, if_pos hj, List.getElem?_drop]
      unfold fillB
      rw [List.getElem?_append_right (by omega), List.getElem?_replicate, if_pos (by omega)]
  · rw [List.getElem?_eq_none (by rw [part_len hF hi hm]; omega), List.getElem?_eq_none (by rw [List.length_take]; omega)]
end Dk
namespace Go.Proofs.Yteeoonoccklhmaa
open Go.RowKit

theorem make128 : ∃ Z : List Value, Z = List.replicate 128 (.int .u8 0) ∧ ∀ W : World, (Instr.makeSlice 23 (.int .i64 128) (.int .i64 128)).run Try.prog W = .ok (.slice (some ⟨W.heap.size, 0, none⟩) 128 128) (W.alloc (.cells Z.toArray 5 (0, 0))) := by
  obtain ⟨i5, hi5, hz5, hs5, hb5⟩ := info_parts Try.info5
  refine ⟨_, rfl, fun W => ?_⟩
  have h := run_make (P := Try.prog) W 23 5 i5 (.int .u8 0) Try.underlying23 hi5 hz5 .i64 .i64 128 128 (by decide) (by decide) (by rw [hb5]; decide) (by decide)
  rw [hs5] at h
  rw [← toList_made]
  exact h

theorem sl_block {w : World} {g n : Nat} {xs : List UInt8} (h : Bk w g 5 (xs.map eb)) (hn : xs.length = n) (hm : n ≤ maxLen := by simp [maxLen]) : Sl eb w (.slice (some ⟨g, 0, none⟩) n n) xs := by
  subst hn
  refine ⟨some ⟨g, 0, none⟩, xs.length, rfl, Nat.le_refl _, hm, by simp, fun i hi => ⟨g, 0, rfl, h.lt, ?_⟩⟩
  rw [Nat.zero_add, h.cell, List.getElem?_map, List.getElem?_eq_getElem hi]
  rfl

/-- What New of the reference answers. -/
def RetRn (r : Dk.St × Int) (w : World) (e : Ending) (w' : World) : Prop :=
  ∃ ub, e = .returned (.tuple #[.agg #[ub, .bool false, .int .i64 0, .int .i64 0, .int .i64 0, .slice none 0 0, .int .i64 0, .int .i64 0, .int .i64 0, .slice none 0 0], .int .i64 r.2]) ∧ Pg w' ub r.1.1 ∧ Below w.heap.size w w'

set_option maxRecDepth 100000 in
set_option maxHeartbeats 4000000 in
theorem rnew_w {u : Value} {xs : List UInt8} {w : World} (hx : Sl eb w u xs) (hm : xs.length ≤ 1000000) : Calls Try.prog 23 #[u] w (RetRn (Dk.new xs) w) := by
  obtain ⟨a, c, rfl, hc, hcm, hna, hrd⟩ := id hx
  unfold maxLen at hcm
  clear hx
  by_cases hbig : 20480 < xs.length
  · have hn : Hid (Dk.new xs = (Dk.zst, 6)) := by show _ = _; unfold Dk.new; rw [if_pos hbig]
    have q0 : (20480 : Int) < (xs.length : Int) := by omega
    have hb0 : Bk (w.alloc (.cells #[.slice none 0 0, .bool false, .int .i64 0, .int .i64 0, .int .i64 0, .slice none 0 0, .int .i64 0, .int .i64 0, .int .i64 0, .slice none 0 0] 31 (0, 0))) w.heap.size 31 (dkC (.slice none 0 0) false 0 0 0 (.slice none 0 0) 0 0 0 (.slice none 0 0)) := Bk.new w _ (dkC _ _ _ _ _ _ _ _ _ _)
    obtain ⟨W0, hW0⟩ : ∃ W0, W0 = (w.alloc (.cells #[.slice none 0 0, .bool false, .int .i64 0, .int .i64 0, .int .i64 0, .slice none 0 0, .int .i64 0, .int .i64 0, .int .i64 0, .slice none 0 0] 31 (0, 0))) := ⟨_, rfl⟩
    have hl0 : Below w.heap.size w W0 := by rw [hW0]; exact low_alloc _ _
    rw [← hW0] at hb0
    have HW0 := Lib.hid hW0
    clear hW0 hbig
    go_enter Try.func23, Try.ntmps23
    go_upto_region 2 with fail
    rw [← HW0.out]
    obtain ⟨⟨r0, r1, r2, r3, r4, r5, r6, r7, r8, r9⟩, z0, z1, z2, z3, z4, z5, z6, z7, z8, z9⟩ := Bk.fd hb0
    go_wp2_with fail
    refine bodyPost_ret (v := .tuple #[.agg #[.slice none 0 0, .bool false, .int .i64 0, .int .i64 0, .int .i64 0, .slice none 0 0, .int .i64 0, .int .i64 0, .int .i64 0, .slice none 0 0], .int .i64 6]) (by simp [results, Try.results23, go_sem, r0, r1, r2, r3, r4, r5, r6, r7, r8, r9]) rfl ?_
    rw [hn.out]
    exact ⟨_, rfl, Pg.nil _, set10 hl0 (Nat.le_refl _) _ _ _ _ _ _ _ _ _ _⟩
  · have hle : xs.length ≤ 20480 := by omega
    have hn : Hid (Dk.new xs = ((Dk.cutB (Dk.fillB xs), Dk.zch), 0)) := by show _ = _; unfold Dk.new; rw [if_neg hbig]
    have q0 : ¬ (20480 : Int) < (xs.length : Int) := by omega
    have HF := Lib.hid (Dk.fill_len hle)
    have HG : Hid (∀ k (h : k < xs.length), (Dk.fillB xs)[k]? = some xs[k]) := fun k h => Dk.fill_get h
    have HE : Hid (∀ i m, i < 160 → m ≤ 128 → xs.length ≤ i * 128 + m → Dk.part (Dk.fillB xs) i m = ((Dk.fillB xs).drop (128 * i)).take 128) := fun i m h1 h2 h3 => Dk.part_end hle h1 h2 h3
    have HRD := Lib.hid hrd
    obtain ⟨i27, hi27, hz27, hs27, hb27⟩ := info_parts Try.infoS
    obtain ⟨Z, hZ, hmk⟩ := make128
    obtain ⟨Z2, hZ2⟩ : ∃ Z : List Value, Z = List.replicate 160 (.slice none 0 0) := ⟨_, rfl⟩
    have hm2 : ∀ W : World, (Instr.makeSlice 22 (.int .i64 160) (.int .i64 160)).run Try.prog W = .ok (.slice (some ⟨W.heap.size, 0, none⟩) 160 160) (W.alloc (.cells Z2.toArray 23 (0, 0))) := fun W => by
      have h := run_make (P := Try.prog) W 22 23 i27 (.slice none 0 0) Try.underlying22 hi27 hz27 .i64 .i64 160 160 (by decide) (by decide) (by rw [hb27]; decide) (by decide)
      rw [hs27] at h
      rw [hZ2, ← toList_made]
      exact h
    have HZ := Lib.hid hZ
    have HZ2 := Lib.hid hZ2
    clear hZ hZ2 hi27 hz27 hs27 hb27 hbig hrd
    go_enter Try.func23, Try.ntmps23
    go_wp2_with fail
    go_loopw [5, 6] (fun s5 _ wr => ∃ (k : Nat) (T : List Value), s5 = .int .i64 k ∧ k ≤ 160 ∧ Bk wr (w.heap.size + 1) 23 T ∧ Hid (T.length = 160 ∧ ∀ j, j < k → ∃ g, w.heap.size + 2 < g ∧ T[j]? = some (.slice (some ⟨g, 0, none⟩) 128 128) ∧ Bk wr g 5 ((((Dk.fillB xs).drop (128 * j)).take 128).map eb)) ∧ Bk wr w.heap.size 31 (dkC (.slice none 0 0) false 0 0 0 (.slice none 0 0) 0 0 0 (.slice none 0 0)) ∧ Bk wr (w.heap.size + 1 + 1) 31 (dkC (.slice (some ⟨w.heap.size + 1, 0, none⟩) 160 160) false 0 0 0 (.slice none 0 0) 0 0 0 (.slice none 0 0)) ∧ Below w.heap.size w wr) (fun s5 _ _ => 160 - (intOf s5).toNat)
    case atStart =>
      refine ⟨0, Z2, rfl, Nat.zero_le _, (Bk.newAt _ _ Z2 (by simp)).alloc _, ⟨by rw [HZ2.out]; simp, fun j hj => absurd hj (Nat.not_lt_zero _)⟩, ((Bk.new w _ (dkC _ _ _ _ _ _ _ _ _ _)).alloc _).alloc _, Bk.newAt _ _ (dkC _ _ _ _ _ _ _ _ _ _) (by simp), ?_⟩
      exact (((Below.refl _ w).alloc (Nat.le_refl _) _).alloc (by simp) _).alloc (by simp; omega) _
    case round =>
      obtain ⟨k, T, rfl, hk, bT, HT, b0, b2, hbl⟩ := hrel
      have n1 : w.heap.size + 1 < wr.heap.size := bT.lt
      have n2 : w.heap.size + 1 + 1 < wr.heap.size := b2.lt
      by_cases hlt : k < 160
      · have c2 : wr.cell? ⟨w.heap.size + 1 + 1, 0, none⟩ = some (.slice (some ⟨w.heap.size + 1, 0, none⟩) 160 160) := b2.cell 0
        have cT : wr.cell? ⟨w.heap.size + 1, k, none⟩ = some (T[k]'(by have := HT.out.1; omega)) := by rw [bT.cell k, List.getElem?_eq_getElem]
        have zT := bT.frozen k
        have f1 : (0 : Int) ≤ (k : Int) := by omega
        have f2 : (k : Int) < 160 := by omega
        have n3 : wr.heap.size ≠ w.heap.size + 1 := by omega
        have n4 : wr.heap.size ≠ w.heap.size + 1 + 1 := by omega
        generalize (T[k]'(by have := HT.out.1; omega)) = old at *
        go_wp2_with fail
        go_region
        go_wp2_with fail
        obtain ⟨WQ, hWQ⟩ : ∃ WQ, WQ = ((wr.setCell ⟨w.heap.size + 1, k, none⟩ (.slice (some ⟨wr.heap.size, 0, none⟩) 128 128)).alloc (.cells Z.toArray 5)).drew := ⟨_, rfl⟩
        have hsz : (wr.setCell ⟨w.heap.size + 1, k, none⟩ (.slice (some ⟨wr.heap.size, 0, none⟩) 128 128)).heap.size = wr.heap.size := by simp
        have HB1 : Hid (Bk WQ (w.heap.size + 1) 23 (T.set k (.slice (some ⟨wr.heap.size, 0, none⟩) 128 128))) := by rw [hWQ]; exact Bk.drew' ((bT.set k _).alloc _)
        have HBG : Hid (Bk WQ wr.heap.size 5 Z) := by rw [hWQ]; exact Bk.drew' (Bk.newAt _ _ Z (by rw [hsz]))
        have HB0 : Hid (Bk WQ w.heap.size 31 (dkC (.slice none 0 0) false 0 0 0 (.slice none 0 0) 0 0 0 (.slice none 0 0))) := by rw [hWQ]; exact Bk.drew' ((b0.far (by simp) _).alloc _)
        have HB2 : Hid (Bk WQ (w.heap.size + 1 + 1) 31 (dkC (.slice (some ⟨w.heap.size + 1, 0, none⟩) 160 160) false 0 0 0 (.slice none 0 0) 0 0 0 (.slice none 0 0))) := by rw [hWQ]; exact Bk.drew' ((b2.far (by simp) _).alloc _)
        have HL1 : Hid (Below w.heap.size w WQ) := by rw [hWQ]; exact ((hbl.setCell (by simp) _).alloc (by simp; omega) _).drew
        have HRW : Hid (∀ j, j < k → ∃ g, w.heap.size + 2 < g ∧ g < wr.heap.size ∧ T[j]? = some (.slice (some ⟨g, 0, none⟩) 128 128) ∧ Bk WQ g 5 ((((Dk.fillB xs).drop (128 * j)).take 128).map eb)) := fun j hj => by
          obtain ⟨g, e0, e1, e2⟩ := HT.out.2 j hj
          refine ⟨g, e0, e2.lt, e1, ?_⟩
          rw [hWQ]
          exact Bk.drew' ((e2.far (p := ⟨w.heap.size + 1, k, none⟩) (by simp; omega) _).alloc _)
        have HQS : Hid (WQ.heap.size = wr.heap.size + 1) := by show _ = _; rw [hWQ]; simp
        have HXT : Hid (∀ (wi : World) (m : Nat), Bk wi wr.heap.size 5 ((Dk.part (Dk.fillB xs) k m).map eb) → (∀ b, b ≠ wr.heap.size → b < WQ.heap.size → wi.heap[b]? = WQ.heap[b]?) → Dk.part (Dk.fillB xs) k m = ((Dk.fillB xs).drop (128 * k)).take 128 →
            Hid ((T.set k (.slice (some ⟨wr.heap.size, 0, none⟩) 128 128)).length = 160 ∧ ∀ j, j < k + 1 → ∃ g, w.heap.size + 2 < g ∧ (T.set k (.slice (some ⟨wr.heap.size, 0, none⟩) 128 128))[j]? = some (.slice (some ⟨g, 0, none⟩) 128 128) ∧ Bk wi g 5 ((((Dk.fillB xs).drop (128 * j)).take 128).map eb))) := fun wi m h1 h2 h3 => by
          refine ⟨by rw [List.length_set]; exact HT.out.1, fun j hj => ?_⟩
          rw [List.getElem?_set]
          by_cases e : k = j
          · subst e
            rw [if_pos rfl, if_pos (by have := HT.out.1; omega)]
            rw [h3] at h1
            exact ⟨_, by omega, rfl, h1⟩
          · rw [if_neg e]
            obtain ⟨g, e0, e3, e1, e2⟩ := HRW.out j (by omega)
            exact ⟨g, e0, e1, e2.keep (h2 g (by omega) e2.lt)⟩
        rw [← hWQ]
        have HWQ := Lib.hid hWQ
        clear hWQ bT b0 b2 hbl c2 cT zT hsz
        go_loopw [6] (fun s6 wi => ∃ m : Nat, s6 = .int .i64 m ∧ m ≤ 128 ∧ Bk wi wr.heap.size 5 ((Dk.part (Dk.fillB xs) k m).map eb) ∧ Hid (∀ b, b ≠ wr.heap.size → b < WQ.heap.size → wi.heap[b]? = WQ.heap[b]?) ∧ Below w.heap.size w wi) (fun s6 _ => 128 - (intOf s6).toNat)
        case atStart => exact ⟨0, rfl, Nat.zero_le _, by rw [Dk.part_zero, List.map_replicate]; have h := HBG.out; rw [HZ.out] at h; exact h, fun _ _ _ => rfl, HL1.out⟩
        case round =>
          rename World => wi
          obtain ⟨m, rfl, hm2, bG, HKP, hbl2⟩ := hrel
          by_cases hm : m < 128
          · by_cases hx : k * 128 + m < xs.length
            · obtain ⟨bx, ox, rfl, hbx, hcx⟩ := HRD.out.form (by omega)
              have cX : wi.cell? ⟨bx, ox + (k * 128 + m), none⟩ = some (eb xs[k * 128 + m]) := by rw [hbl2.cell (p := ⟨bx, ox + (k * 128 + m), none⟩) hbx]; exact hcx _ hx
              have hgx := HG.out _ hx
              have c2 : wi.cell? ⟨w.heap.size + 1 + 1, 0, none⟩ = some (.slice (some ⟨w.heap.size + 1, 0, none⟩) 160 160) := (HB2.out.keep (HKP.out _ (by omega) HB2.out.lt)).cell 0
              have cT : wi.cell? ⟨w.heap.size + 1, k, none⟩ = some (.slice (some ⟨wr.heap.size, 0, none⟩) 128 128) := by
                rw [(HB1.out.keep (HKP.out _ (by omega) HB1.out.lt)).cell k, List.getElem?_set, if_pos rfl, if_pos (by have := HT.out.1; omega)]
              have hpl := Dk.part_len HF.out hlt hm2
              obtain ⟨old, ho⟩ : ∃ old, ((Dk.part (Dk.fillB xs) k m).map eb)[m]? = some old := ⟨_, List.getElem?_eq_getElem (by rw [List.length_map, hpl]; exact hm)⟩
              have cG : wi.cell? ⟨wr.heap.size, m, none⟩ = some old := by rw [bG.cell m, ho]
              have zG := bG.frozen m
              have HST := Lib.hid (Dk.part_step HF.out hlt hm hgx)
              generalize xs[k * 128 + m] = y at *
              unfold eb at cX
              have g1 : (0 : Int) ≤ (m : Int) := by omega
              have g2 : (m : Int) < 128 := by omega
              have g3 : (k : Int) * 128 + (m : Int) < (xs.length : Int) := by omega
              have g4 : (0 : Int) ≤ (k : Int) * 128 + (m : Int) := by omega
              clear ho hgx hcx hpl hx hm
              go_wp2_with fail
              go_region
              go_wp2_with fail
              go_roundw
              case rel =>
                refine ⟨m + 1, by go_num, by omega, ?_, fun b h1 h2 => ?_, (hbl2.setCell (by simp; omega) _).drew⟩
                · rw [← HST.out, List.map_set]
                  exact Bk.drew' (bG.set m (.int .u8 (y.toNat : Int)))
                · exact (Below.heap_setCell wi ⟨wr.heap.size, m, none⟩ (.int .u8 (y.toNat : Int)) b h1).trans (HKP.out b h1 h2)
              case measure => simp [intOf]; omega
            · have hend := HE.out k m hlt hm2 (by omega)
              have g2 : (m : Int) < 128 := by omega
              have g3 : ¬ (k : Int) * 128 + (m : Int) < (xs.length : Int) := by omega
              clear hx hm
              go_wp2_with fail
              go_roundw
              case rel => exact ⟨k + 1, _, by go_num, by omega, HB1.out.keep (HKP.out _ (by omega) HB1.out.lt), HXT.out wi m bG HKP.out hend, HB0.out.keep (HKP.out _ (by omega) HB0.out.lt), HB2.out.keep (HKP.out _ (by omega) HB2.out.lt), hbl2⟩
              case measure => simp [intOf]; omega
          · obtain rfl : m = 128 := by omega
            have hend := Dk.part_full (Dk.fillB xs) k
            go_wp2_with fail
            go_roundw
            case rel => exact ⟨k + 1, _, by go_num, by omega, HB1.out.keep (HKP.out _ (by omega) HB1.out.lt), HXT.out wi 128 bG HKP.out hend, HB0.out.keep (HKP.out _ (by omega) HB0.out.lt), HB2.out.keep (HKP.out _ (by omega) HB2.out.lt), hbl2⟩
            case measure => simp [intOf]; omega
      · obtain rfl : k = 160 := by omega
        obtain ⟨⟨r0, r1, r2, r3, r4, r5, r6, r7, r8, r9⟩, z0, z1, z2, z3, z4, z5, z6, z7, z8, z9⟩ := Bk.fd b0
        obtain ⟨⟨p0, p1, p2, p3, p4, p5, p6, p7, p8, p9⟩, -⟩ := Bk.fd b2
        have n5 : w.heap.size ≠ w.heap.size + 1 := by omega
        go_wp2_with fail
        refine bodyPost_ret (v := .tuple #[.agg #[.slice (some ⟨w.heap.size + 1, 0, none⟩) 160 160, .bool false, .int .i64 0, .int .i64 0, .int .i64 0, .slice none 0 0, .int .i64 0, .int .i64 0, .int .i64 0, .slice none 0 0], .int .i64 0]) (by simp [results, Try.results23, go_sem, r0, r1, r2, r3, r4, r5, r6, r7, r8, r9]) rfl ?_
        rw [hn.out]
        refine ⟨_, rfl, ?_, set10 hbl (Nat.le_refl _) (.slice (some ⟨w.heap.size + 1, 0, none⟩) 160 160) (.bool false) (.int .i64 0) (.int .i64 0) (.int .i64 0) (.slice none 0 0) (.int .i64 0) (.int .i64 0) (.int .i64 0) (.slice none 0 0)⟩
        have hT1 := bT.keep (set10_heap (W := wr) (b := w.heap.size) (k := w.heap.size + 1) (by omega) (.slice (some ⟨w.heap.size + 1, 0, none⟩) 160 160) (.bool false) (.int .i64 0) (.int .i64 0) (.int .i64 0) (.slice none 0 0) (.int .i64 0) (.int .i64 0) (.int .i64 0) (.slice none 0 0))
        refine ⟨T, ⟨some ⟨w.heap.size + 1, 0, none⟩, 160, by rw [HT.out.1], by rw [HT.out.1]; exact Nat.le_refl _, by simp [maxLen], by simp, fun i hi => ⟨w.heap.size + 1, 0, rfl, hT1.lt, ?_⟩⟩, by rw [HT.out.1]; exact (Dk.cut_len _).symm, fun i hi hi' => ?_⟩
        · rw [Nat.zero_add, hT1.cell, List.getElem?_eq_getElem hi]; rfl
        · have hi6 : i < 160 := by have := HT.out.1; omega
          obtain ⟨g, e0, e1, e2⟩ := HT.out.2 i hi6
          rw [List.getElem?_eq_getElem hi] at e1
          simp only [Option.some.injEq] at e1
          rw [e1]
          have h2 := e2.keep (set10_heap (W := wr) (b := w.heap.size) (k := g) (by omega) (.slice (some ⟨w.heap.size + 1, 0, none⟩) 160 160) (.bool false) (.int .i64 0) (.int .i64 0) (.int .i64 0) (.slice none 0 0) (.int .i64 0) (.int .i64 0) (.int .i64 0) (.slice none 0 0))
          have h3 : (Dk.cutB (Dk.fillB xs))[i]'hi' = ((Dk.fillB xs).drop (128 * i)).take 128 := Dk.cut_get _ i hi6
          show Sl eb _ _ ((Dk.cutB (Dk.fillB xs))[i]'hi')
          rw [h3]
          exact sl_block h2 (by rw [List.length_take, List.length_drop, HF.out]; omega)
end Go.Proofs.Yteeoonoccklhmaa
