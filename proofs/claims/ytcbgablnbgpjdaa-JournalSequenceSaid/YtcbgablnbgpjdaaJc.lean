/-
  The walks of own, from and few of the laws (printed by gen/mk36c.py).
-/
import Derived.Test.YtcbgablnbgpjdaaJb
namespace Go.Proofs.Ytcbgablnbgpjdaa
open Go.RowKit

set_option maxRecDepth 20000 in
set_option maxHeartbeats 1600000 in
theorem own_w {v : Value} {ls : List Jr.Wr} {w : World} (h : Wp w v ls) (hm : ls.length ≤ 1000) :
    Calls Try.prog 15 #[v] w fun e w' => ∃ v', e = .returned v' ∧ Wo w.heap.size 63 [] w' v' ls ∧ Below w.heap.size w w' := by
  obtain ⟨es, ⟨a, cap, rfl, hc, hcm, hna, hrm⟩, hle, hre⟩ := h
  unfold maxLen at hcm
  have HRM := Lib.hid hrm
  have HRE : Hid (WsR w es ls) := ⟨hle, hre⟩
  have hm' : es.length ≤ 1000 := by omega
  clear hrm hre hle
  obtain ⟨i0, hi, hz0, hz1, hz2⟩ := info_parts Try.infoJ
  go_enter Try.func15, Try.ntmps15
  go_wp2
  go_loopw [3, 4, 7] (fun s3 _ i wr => ∃ (k : Nat) (v : Value), v = s3 ∧ i = .int .i64 k ∧ k ≤ es.length ∧ wr.ownsRow w.heap.size 63 2 v k ((es.take k).flatMap ew) ∧ Below w.heap.size w wr) (fun _ _ i _ => es.length - (intOf i).toNat)
  case atStart => exact ⟨0, _, rfl, rfl, Nat.zero_le _, World.ownsRow_nil _ _ _ _, Below.refl _ _⟩
  case round =>
    obtain ⟨k, v, rfl, rfl, hk, hown, hbl⟩ := hrel
    by_cases hlt : k < es.length
    · obtain ⟨b, off, rfl, hb, hc4⟩ := (HRM.out).form (by omega)
      have h0 := hc4 k hlt 0 (by omega)
      have h1 := hc4 k hlt 1 (by omega)
      have HTE : Hid (es.take (k + 1) = es.take k ++ [es[k]]) := List.take_succ_eq_append_getElem hlt
      generalize es[k] = x at *
      obtain ⟨n, ad, m, c⟩ := x
      simp only [ew, List.getElem?_cons_zero, List.getElem?_cons_succ, Nat.add_zero] at h0 h1
      have x0 : wr.cell? ⟨b, off + k * 2, none⟩ = some (.int .i64 n) := by rw [hbl.cell (p := ⟨b, off + k * 2, none⟩) hb]; exact h0
      have x1 : wr.cell? ⟨b, off + k * 2 + 1, none⟩ = some (.slice ad m c) := by rw [hbl.cell (p := ⟨b, off + k * 2 + 1, none⟩) hb]; exact h1
      have f1 : (0 : Int) ≤ (k : Int) := by omega
      have f2 : (k : Int) < (es.length : Int) := by omega
      have hbsz := hbl.size
      have HBL := Lib.hid hbl
      have HST : Hid (∀ w7, Below w.heap.size (wr.alloc (.cells #[.int .i64 n, .slice ad m c] 63 (0, 0))) w7 → Below w.heap.size w w7) := fun w7 h7 => (hbl.alloc hbl.size _).trans h7
      clear h0 h1 hc4 hbl
      go_wp2_with (at_builtin; refine wpList_append_m ew ew_len (by decide) ew_one rfl _ _ 31 rfl w.heap.size 63 i0 (.agg #[.int .i64 0, .slice none 0 0]) 32 Try.underlying31 hi hz0 hz1 hz2 rfl _ k (es.take k) rfl (own2_keep hown fun g hg => Below.heap_alloc _ _ _ (hown.lt g hg).2) (some ⟨wr.heap.size, 0, none⟩) 1 [(n, ad, m, c)] 1 rfl rfl (by simp) (by omega) (Rm.one wr (n, ad, m, c) 63 _ rfl) (by unfold maxLen; omega) (by omega) (by simp; omega) ?_; intro v7 w7 hown7 hsp7 hbl7)
      go_wp2
      go_roundw
      case rel => exact ⟨k + 1, _, rfl, by go_num, by omega, by rw [HTE.out]; exact hown7, HST.out _ hbl7⟩
      case measure => simp [intOf]; omega
    · obtain rfl : k = es.length := by omega
      have HOWN : Hid (Wo w.heap.size 63 [] wr v ls) := by
        rw [List.take_length] at hown
        exact ⟨es, hown, fun W' hW => HRE.out.keep fun b hb => (hW b (by have := hbl.size; omega) (fun hx => hx.elim (fun h => by cases h) (fun h => by have := (hown.lt b h).1; omega))).trans (hbl.block b hb)⟩
      clear hown
      go_wp2
      go_ret
      exact ⟨_, rfl, HOWN.out, hbl⟩

set_option maxRecDepth 20000 in
set_option maxHeartbeats 1600000 in
theorem from_w {v : Value} {ls : List Jr.Wr} {w : World} (h : Wp w v ls) (hm : ls.length ≤ 1000) :
    Calls Try.prog 18 #[v] w fun e w' => ∃ v', e = .returned v' ∧ Wo w.heap.size 66 [] w' v' ls ∧ Below w.heap.size w w' := by
  obtain ⟨es, ⟨a, cap, rfl, hc, hcm, hna, hrm⟩, hle, hre⟩ := h
  unfold maxLen at hcm
  have HRM := Lib.hid hrm
  have HRE : Hid (WsR w es ls) := ⟨hle, hre⟩
  have hm' : es.length ≤ 1000 := by omega
  clear hrm hre hle
  obtain ⟨i0, hi, hz0, hz1, hz2⟩ := info_parts Try.infoR
  go_enter Try.func18, Try.ntmps18
  go_wp2
  go_loopw [3, 4, 7] (fun s3 _ i wr => ∃ (k : Nat) (v : Value), v = s3 ∧ i = .int .i64 k ∧ k ≤ es.length ∧ wr.ownsRow w.heap.size 66 2 v k ((es.take k).flatMap ew) ∧ Below w.heap.size w wr) (fun _ _ i _ => es.length - (intOf i).toNat)
  case atStart => exact ⟨0, _, rfl, rfl, Nat.zero_le _, World.ownsRow_nil _ _ _ _, Below.refl _ _⟩
  case round =>
    obtain ⟨k, v, rfl, rfl, hk, hown, hbl⟩ := hrel
    by_cases hlt : k < es.length
    · obtain ⟨b, off, rfl, hb, hc4⟩ := (HRM.out).form (by omega)
      have h0 := hc4 k hlt 0 (by omega)
      have h1 := hc4 k hlt 1 (by omega)
      have HTE : Hid (es.take (k + 1) = es.take k ++ [es[k]]) := List.take_succ_eq_append_getElem hlt
      generalize es[k] = x at *
      obtain ⟨n, ad, m, c⟩ := x
      simp only [ew, List.getElem?_cons_zero, List.getElem?_cons_succ, Nat.add_zero] at h0 h1
      have x0 : wr.cell? ⟨b, off + k * 2, none⟩ = some (.int .i64 n) := by rw [hbl.cell (p := ⟨b, off + k * 2, none⟩) hb]; exact h0
      have x1 : wr.cell? ⟨b, off + k * 2 + 1, none⟩ = some (.slice ad m c) := by rw [hbl.cell (p := ⟨b, off + k * 2 + 1, none⟩) hb]; exact h1
      have f1 : (0 : Int) ≤ (k : Int) := by omega
      have f2 : (k : Int) < (es.length : Int) := by omega
      have hbsz := hbl.size
      have HBL := Lib.hid hbl
      have HST : Hid (∀ w7, Below w.heap.size (wr.alloc (.cells #[.int .i64 n, .slice ad m c] 66 (0, 0))) w7 → Below w.heap.size w w7) := fun w7 h7 => (hbl.alloc hbl.size _).trans h7
      clear h0 h1 hc4 hbl
      go_wp2_with (at_builtin; refine wpList_append_m ew ew_len (by decide) ew_one rfl _ _ 22 rfl w.heap.size 66 i0 (.agg #[.int .i64 0, .slice none 0 0]) 32 Try.underlying22 hi hz0 hz1 hz2 rfl _ k (es.take k) rfl (own2_keep hown fun g hg => Below.heap_alloc _ _ _ (hown.lt g hg).2) (some ⟨wr.heap.size, 0, none⟩) 1 [(n, ad, m, c)] 1 rfl rfl (by simp) (by omega) (Rm.one wr (n, ad, m, c) 66 _ rfl) (by unfold maxLen; omega) (by omega) (by simp; omega) ?_; intro v7 w7 hown7 hsp7 hbl7)
      go_wp2
      go_roundw
      case rel => exact ⟨k + 1, _, rfl, by go_num, by omega, by rw [HTE.out]; exact hown7, HST.out _ hbl7⟩
      case measure => simp [intOf]; omega
    · obtain rfl : k = es.length := by omega
      have HOWN : Hid (Wo w.heap.size 66 [] wr v ls) := by
        rw [List.take_length] at hown
        exact ⟨es, hown, fun W' hW => HRE.out.keep fun b hb => (hW b (by have := hbl.size; omega) (fun hx => hx.elim (fun h => by cases h) (fun h => by have := (hown.lt b h).1; omega))).trans (hbl.block b hb)⟩
      clear hown
      go_wp2
      go_ret
      exact ⟨_, rfl, HOWN.out, hbl⟩

/-- The value of a described disk. -/
def SpV (w : World) (v : Value) (x : Jr.Sp) : Prop := ∃ u1 u2, v = .agg #[u1, .int .u32 x.2.1, u2] ∧ Wp w u1 x.1 ∧ Wp w u2 x.2.2 ∧ 0 ≤ x.2.1 ∧ x.2.1 < 4294967296
theorem SpV.below {w w' : World} {v : Value} {x : Jr.Sp} {B : Nat} (h : SpV w v x) (hb : Below B w w') (hB : w.heap.size ≤ B) : SpV w' v x := by
  obtain ⟨u1, u2, e, h1, h2, h3, h4⟩ := h
  exact ⟨u1, u2, e, h1.below hb hB, h2.below hb hB, h3, h4⟩

theorem few_w {v : Value} {x : Jr.Sp} {w : World} (h : SpV w v x) : Calls Try.prog 11 #[v] w fun e w' => e = .returned (.bool (Jr.few x)) ∧ Below w.heap.size w w' := by
  obtain ⟨u1, u2, rfl, h1, h2, -⟩ := h
  obtain ⟨bl, seq, lg⟩ := x
  obtain ⟨a1, c1, rfl⟩ := h1.slice
  obtain ⟨a2, c2, rfl⟩ := h2.slice
  simp only at *
  have HL : Hid (Below w.heap.size w (w.alloc (.cells #[.slice a1 bl.length c1, .int .u32 seq, .slice a2 lg.length c2] 25 (0, 0)))) := low_alloc _ _
  have H1 := Lib.hid h1
  have H2 := Lib.hid h2
  have HE : Hid (Jr.few (bl, seq, lg) = (Jr.short bl && Jr.short lg)) := rfl
  generalize Jr.few (bl, seq, lg) = r at *
  have HS1 : Hid (∀ W, Below w.heap.size w W → Calls Try.prog 12 #[.slice a1 bl.length c1] W fun e w' => e = .returned (.bool (Jr.short bl)) ∧ W = w') := fun W hW => short_w (H1.out.below hW (Nat.le_refl _))
  have HS2 : Hid (∀ W, Below w.heap.size w W → Calls Try.prog 12 #[.slice a2 lg.length c2] W fun e w' => e = .returned (.bool (Jr.short lg)) ∧ W = w') := fun W hW => short_w (H2.out.below hW (Nat.le_refl _))
  clear h1 h2
  cases hb : Jr.short bl with
  | false =>
    rw [hb] at HS1 HE
    clear hb
    go_enter Try.func11, Try.ntmps11
    go_wp2_with (go_at_call 12; (with_reducible refine (HS1.out _ HL.out).mono ?_); rintro e w1 ⟨rfl, rfl⟩)
    go_ret
    exact ⟨ret_bool HE.out.symm, HL.out⟩
  | true =>
    rw [hb] at HS1 HE
    clear hb
    go_enter Try.func11, Try.ntmps11
    go_wp2_with (first
      | (go_at_call 12; (with_reducible refine (HS1.out _ HL.out).mono ?_); rintro e w1 ⟨rfl, rfl⟩)
      | (go_at_call 12; (with_reducible refine (HS2.out _ HL.out).mono ?_); rintro e w1 ⟨rfl, rfl⟩))
    go_ret
    exact ⟨ret_bool HE.out.symm, HL.out⟩
end Go.Proofs.Ytcbgablnbgpjdaa
