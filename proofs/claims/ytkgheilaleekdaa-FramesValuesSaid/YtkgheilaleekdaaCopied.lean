/-
  The walk of frames.copied.
-/
import Derived.Test.YtkgheilaleekdaaNew
import Derived.Test.YtkgheilaleekdaaEq
namespace Go.Proofs.Ytkgheilaleekdaa
open Go.RowKit

theorem Fm.below {w w' : World} {g h : Nat} {ps : List (List UInt8)} (F : Fm w g h ps) {B : Nat} (hb : Below B w w') (hB : w.heap.size ≤ B) : Fm w' g h ps := by
  obtain ⟨f1, f2, ⟨cur, b1, b2, b3⟩, ⟨T, t1, t2, t3⟩⟩ := F
  exact ⟨f1, f2, ⟨cur, b1.below hb (Nat.lt_of_lt_of_le b1.lt hB), b2, b3⟩, ⟨T, t1.below hb (Nat.lt_of_lt_of_le t1.lt hB), t2, t3⟩⟩

theorem Fm.keep {w w' : World} {g h : Nat} {ps : List (List UInt8)} (F : Fm w g h ps) (hg : w'.heap[g]? = w.heap[g]?) (hh : w'.heap[h]? = w.heap[h]?) : Fm w' g h ps := by
  obtain ⟨f1, f2, ⟨cur, b1, b2, b3⟩, ⟨T, t1, t2, t3⟩⟩ := F
  exact ⟨f1, f2, ⟨cur, b1.keep hg, b2, b3⟩, ⟨T, t1.keep hh, t2, t3⟩⟩

theorem Fm.lt {w : World} {g h : Nat} {ps : List (List UInt8)} (F : Fm w g h ps) : g < w.heap.size ∧ h < w.heap.size := by
  obtain ⟨f1, f2, ⟨cur, b1, b2, b3⟩, ⟨T, t1, t2, t3⟩⟩ := F
  exact ⟨b1.lt, t1.lt⟩

theorem Fm.pg {w : World} {g h : Nat} {ps : List (List UInt8)} (F : Fm w g h ps) : Pg w (.slice (some ⟨h, 0, none⟩) 96 96) ps := by
  obtain ⟨f1, f2, ⟨cur, b1, b2, b3⟩, ⟨T, t1, t2, t3⟩⟩ := F
  refine ⟨T, ⟨some ⟨h, 0, none⟩, 96, by rw [t2], by omega, by simp [maxLen], by simp, fun i hi => ⟨h, 0, rfl, t1.lt, ?_⟩⟩, by omega, fun i hi hi' => ?_⟩
  · rw [Nat.zero_add, t1.cell, List.getElem?_eq_getElem hi]; rfl
  · have ht := t3 i (by omega)
    rw [List.getElem?_eq_getElem hi] at ht
    simp only [Option.some.injEq] at ht
    rw [ht]
    refine ⟨some ⟨g, i * 128, none⟩, 128, by rw [f2 i hi'], by rw [f2 i hi']; exact Nat.le_refl _, by simp [maxLen], by simp, fun k hk => ⟨g, i * 128, rfl, b1.lt, ?_⟩⟩
    rw [b1.cell, b3 i hi' k hk]

theorem Fm.put {w w' : World} {g h : Nat} {qs : List (List UInt8)} (F : Fm w g h qs) (hgh : g ≠ h) (hgr : w.grownBy w' (some g)) {cur : List Value} (hlen : cur.length = 12288)
    (hcur : ∀ i (hi : i < qs.length) k (hk : k < qs[i].length), cur[i * 128 + k]? = some (eb qs[i][k])) (i x : Nat) (b : List UInt8) (hi : i < 96) (hx : x + b.length ≤ 128)
    (hb : Bk w' g 5 (splice cur (i * 128 + x) (b.map eb))) : Fm w' g h (qs.set i (Fr.put (qs.getD i []) x b)) := by
  obtain ⟨f1, f2, _, ⟨T, t1, t2, t3⟩⟩ := F
  have hiq : i < qs.length := by omega
  have hp : qs.getD i [] = qs[i] := by simp [List.getD, hiq]
  have hl : (Fr.put qs[i] x b).length = 128 := by rw [Fr.length_put (by rw [f2 i hiq]; exact hx), f2 i hiq]
  rw [hp]
  have hfit : i * 128 + x + (b.map eb).length ≤ cur.length := by rw [hlen, List.length_map]; omega
  refine ⟨by rw [List.length_set]; exact f1, fun j hj => ?_, ⟨_, hb, by rw [length_splice _ _ _ hfit]; exact hlen, fun j hj k hk => ?_⟩, ⟨T, t1.grown hgr (by simpa using hgh), t2, t3⟩⟩
  · rw [List.getElem_set]
    split
    · exact hl
    · exact f2 j (by simpa using hj)
  · have hj' : j < qs.length := by simpa using hj
    have hk' : k < 128 := by
      rw [List.getElem_set] at hk
      split at hk
      · omega
      · rw [f2 j hj'] at hk; exact hk
    have hg2 : (qs.set i (Fr.put qs[i] x b))[j][k] = (if i = j then Fr.put qs[i] x b else qs[j])[k]'(by rw [List.getElem_set] at hk; exact hk) := by congr 1; rw [List.getElem_set]
    rw [splice_get _ _ _ hfit, List.length_map, hg2]
    by_cases e : i = j
    · subst e
      have hpg : (Fr.put qs[i] x b)[k]? = some ((Fr.put qs[i] x b)[k]'(by omega)) := List.getElem?_eq_getElem (by omega)
      have hps := splice_get qs[i] x b (by rw [f2 i hiq]; exact hx) k
      have hps' := hpg.symm.trans hps
      have hkq : k < qs[i].length := by rw [f2 i hiq]; exact hk'
      have hv : (if i = i then Fr.put qs[i] x b else qs[i])[k]'(by rw [List.getElem_set] at hk; exact hk) = (Fr.put qs[i] x b)[k]'(by omega) := by congr 1; rw [if_pos rfl]
      rw [hv]
      by_cases h1 : k < x
      · rw [if_pos (by omega), hcur i hiq k (by rw [f2 i hiq]; exact hk')]
        rw [if_pos h1, List.getElem?_eq_getElem hkq] at hps'
        simp only [Option.some.injEq] at hps'
        rw [hps']
      · by_cases h2 : k < x + b.length
        · rw [if_neg (by omega), if_pos (by omega), show i * 128 + k - (i * 128 + x) = k - x by omega, List.getElem?_map, List.getElem?_eq_getElem (by omega)]
          rw [if_neg h1, if_pos h2, List.getElem?_eq_getElem (by omega)] at hps'
          simp only [Option.some.injEq] at hps'
          rw [hps']; rfl
        · rw [if_neg (by omega), if_neg (by omega), hcur i hiq k (by rw [f2 i hiq]; exact hk')]
          rw [if_neg h1, if_neg h2, List.getElem?_eq_getElem hkq] at hps'
          simp only [Option.some.injEq] at hps'
          rw [hps']
    · have hv : (if i = j then Fr.put qs[i] x b else qs[j])[k]'(by rw [List.getElem_set] at hk; exact hk) = qs[j][k]'(by rw [f2 j hj']; exact hk') := by congr 1; rw [if_neg e]
      rw [hv]
      rw [← hcur j hj' k (by rw [f2 j hj']; exact hk')]
      by_cases h1 : j * 128 + k < i * 128 + x
      · rw [if_pos h1]
      · rw [if_neg h1, if_neg (by omega)]

theorem Pg.el {w : World} {a : Option Addr} {n cap : Nat} {ps : List (List UInt8)} (h : Pg w (.slice a n cap) ps) (i : Nat) (hi : i < ps.length) :
    ∃ b off a' c', a = some ⟨b, off, none⟩ ∧ b < w.heap.size ∧ w.cell? ⟨b, off + i, none⟩ = some (.slice a' ps[i].length c') ∧ ps[i].length ≤ c' ∧ c' ≤ maxLen ∧ (a' = none → c' = 0) ∧ Rd eb w a' ps[i] := by
  obtain ⟨a2, c2, e, _, _, _, he⟩ := h.open
  injection e with e1 _ _
  subst e1
  exact he i hi

theorem sz5 : (Try.prog.info? 5).map (·.size) = some 1 := by kernel_rfl

set_option maxRecDepth 20000 in
set_option maxHeartbeats 800000 in
theorem copied_w {v : Value} {ps : List (List UInt8)} {w : World} (hv : Pg w v ps) (hva : Fr.valid ps = true) :
    Calls Try.prog 33 #[.agg #[v]] w fun e w' => ∃ g h, e = .returned (.agg #[.slice (some ⟨h, 0, none⟩) 96 96]) ∧ w.heap.size ≤ g ∧ w.heap.size ≤ h ∧ g ≠ h ∧ Fm w' g h ps ∧ Below w.heap.size w w' := by
  obtain ⟨hl, hpl⟩ := Fr.valid_iff.1 hva
  have HV := Lib.hid hv
  have HPL := Lib.hid hpl
  obtain ⟨a, cap, rfl, hc, hcm, hna, -⟩ := hv.open
  clear hv hva hpl
  rw [hl] at hc HV ⊢
  have HL := Lib.hid hl
  clear hl
  unfold maxLen at hcm
  have HN := Lib.hid (fun W => new_w W)
  go_enter Try.func33, Try.ntmps33
  go_wp2_with (go_at_call 27; refine (HN.out _).mono ?_; rintro e w1 ⟨g, h, rfl, hg, hh, hgh, hF, hb1⟩; obtain ⟨hbw1, k1, k2⟩ := boxes2 hb1; have hz : w.heap.size + 1 < w1.heap.size := (by have := hb1.size; simp at this; omega); have hz0 : w.heap.size < w1.heap.size := (by omega))
  have hg' : w.heap.size + 2 ≤ g := by simp at hg; omega
  have hh' : w.heap.size + 2 ≤ h := by simp at hh; omega
  have hlt0 := hF.lt
  have B1 : Bk w1 (w.heap.size + 1) 30 [.slice none 0 0] := (Bk.newAt _ _ [_] (by simp)).below hb1 (by simp)
  go_loopw [4, 5, 10] (fun _ _ s10 wr => ∃ (k : Nat) (qs : List (List UInt8)), s10 = .int .i64 k ∧ k ≤ 96 ∧ Fm wr g h qs ∧ Hid (∀ j (hj : j < qs.length) (hj' : j < ps.length), j < k → qs[j] = ps[j]) ∧ Bk wr (w.heap.size + 1) 30 [.slice none 0 0] ∧ Bk wr w1.heap.size 30 [.slice (some ⟨h, 0, none⟩) 96 96] ∧ Below w.heap.size w wr) (fun _ _ s10 _ => 96 - (intOf s10).toNat)
  case atStart => exact ⟨0, _, rfl, Nat.zero_le _, hF.below ((Below.refl _ _).alloc (Nat.le_refl _) _) (Nat.le_refl _), fun j _ _ hj => absurd hj (Nat.not_lt_zero _), B1.alloc _, Bk.newAt _ _ [_] rfl, hbw1.alloc hbw1.size _⟩
  case round =>
    obtain ⟨k, qs, rfl, hk, hFr, HQ, b1, b3, hbl⟩ := hrel
    have c3 := b3.cell 0
    simp only [List.getElem?_cons_zero] at c3
    by_cases hlt : k < 96
    · have hkp : k < ps.length := by have := HL.out; omega
      obtain ⟨hq1, hq2, ⟨cur, r1, r2, r3⟩, ⟨T, t1, t2, t3⟩⟩ := hFr
      have hFr : Fm wr g h qs := ⟨hq1, hq2, ⟨cur, r1, r2, r3⟩, ⟨T, t1, t2, t3⟩⟩
      obtain ⟨b, off, a', c', rfl, hb, hck, p1, p2, p3, p4⟩ := (HV.out.below hbl (Nat.le_refl _)).el k hkp
      have hpl := HPL.out k hkp
      rw [hpl] at hck p1
      generalize hpk : ps[k] = pk at *
      have HPK := Lib.hid hpk
      clear hpk
      have ct : wr.cell? ⟨h, k, none⟩ = some (.slice (some ⟨g, k * 128, none⟩) 128 128) := by rw [t1.cell k]; exact t3 k hlt
      have f1 : (0 : Int) ≤ (k : Int) := by omega
      have f2 : (k : Int) < 96 := by omega
      have HPL2 := Lib.hid hpl
      have HR3 := Lib.hid r3
      have HR2 := Lib.hid r2
      have HQL := Lib.hid hq1
      have HQ2 := Lib.hid hq2
      clear hpl r3 t3 r2 t2 hq2 hq1
      go_wp2_with (refine wpList_copy_rd eb (fun _ => rfl) rfl (.tmp 19) (.tmp 20) 27 27 rfl 5 Try.underlying27 sz5 (some ⟨g, k * 128, none⟩) g (k * 128) 128 128 a' pk 128 c' 128 rfl rfl HPL2.out rfl (fun _ => rfl) p4 cur 5 r1 (by rw [HR2.out]; omega) ?_; intro w2 hb2 hgr2)
      have hF2 : Fm w2 g h (qs.set k (Fr.put (qs.getD k []) 0 pk)) := hFr.put hgh hgr2 HR2.out HR3.out k 0 pk hlt (by rw [HPL2.out]; omega) (by rw [List.take_of_length_le (by rw [HPL2.out]; omega)] at hb2; exact hb2)
      have hbl2 := hbl.trans (below_of_grown hgr2 (by omega) hbl.size)
      have b12 := b1.grown hgr2 (by simp; omega)
      have b32 := b3.grown hgr2 (by simp; omega)
      clear hb2 hgr2 hFr r1 t1 b1 b3 hbl p4 c3 hck ct
      go_wp2
      go_roundw
      case rel =>
        refine ⟨k + 1, _, by go_num, by omega, hF2, fun j hj hj' hjk => ?_, b12, b32, hbl2⟩
        rw [List.getElem_set]
        by_cases e : k = j
        · subst e
          rw [if_pos rfl]
          have hkq : k < qs.length := by rw [HQL.out]; omega
          unfold Fr.put
          simp only [List.take_zero, List.nil_append, Nat.zero_add]
          rw [List.drop_eq_nil_of_le, List.append_nil]
          · exact HPK.out.symm
          · rw [show qs.getD k [] = qs[k] by simp [List.getD, hkq], HPL2.out, HQ2.out k hkq]
            exact Nat.le_refl _
        · rw [if_neg e]; exact HQ.out j (by simpa using hj) hj' (by omega)
      case measure => simp [intOf]; omega
    · obtain rfl : k = 96 := by omega
      have c0 := b1.cell 0
      have z0 := b1.frozen 0
      simp only [List.getElem?_cons_zero] at c0
      have hqs : qs = ps := List.ext_getElem (by rw [hFr.len, HL.out]) fun j h1 h2 => HQ.out j h1 h2 (by have := HL.out; omega)
      subst hqs
      go_wp2
      refine bodyPost_ret (v := .agg #[.slice (some ⟨h, 0, none⟩) 96 96]) (by simp [results, Try.results33, go_sem, c0]) rfl ⟨g, h, rfl, by omega, by omega, hgh, hFr.keep ?_ ?_, hbl.setCell (by simp) _⟩
      · exact Below.heap_setCell _ _ _ _ (by simp; omega)
      · exact Below.heap_setCell _ _ _ _ (by simp; omega)
end Go.Proofs.Ytkgheilaleekdaa
