/-
  The walks of slices.Clone of interrupts and of both functions copied.
-/
import Derived.Test.YtehniblcodkmaaaIe
namespace Go.Proofs.Ytehniblcodkmaaa
open Go.RowKit

theorem Try.infoLine : (Try.prog.info? 38).map (fun i => (i.zero, i.size, i.bytes)) = some (some (.agg #[.int .i64 0, .int .i64 0, .int .i64 0, .slice none 0 0]), 4, 48) := by kernel_rfl

theorem own_none {W : World} {base s : Nat} {e : TypeId} {n : Nat} {cs : List Value} (a : Option Addr) (c : Nat) (h : W.ownsRow base e s (.slice a n c) n cs) : ∀ g, (Value.slice a n c).ownBlock = some g → base ≤ g := fun g hg => (h.lt g hg).1

set_option maxHeartbeats 800000 in
/-- slices.Clone of interrupts. -/
theorem clone_w {v : Value} {es : List El} {ls : List Iq.Ln} {w : World} (hS : Sm 4 el w v es) (hR : LsR w es ls) (hm : ls.length ≤ 100000) :
    Calls Try.prog 51 #[v] w fun e w' => ∃ v, e = .returned v ∧ Lo w' w.heap.size 38 v es ls ∧ Below w.heap.size w w' := by
  obtain ⟨a, cap, rfl, hc, hcm, hn, hr⟩ := hS
  obtain ⟨hl, he⟩ := hR
  obtain ⟨i0, hi, hz0, hz1, hz2⟩ := info_parts Try.infoLine
  have hen := fun (W : World) (a : Option Addr) (n c : Nat) => Lib.run_eql_slice_nil (P := Try.prog) W 28 38 a n c 0 0 Try.underlying28
  have HE := Lib.hid he
  have HL := Lib.hid hl
  have hm' : es.length ≤ 100000 := by omega
  clear he hl
  cases a with
  | none =>
    have hc0 := hn rfl
    obtain rfl : es = [] := by cases es with | nil => rfl | cons x xs => simp at hc; omega
    subst hc0
    go_enter Try.func51, Try.ntmps51
    go_wp2
    go_ret
    obtain rfl : ls = [] := List.eq_nil_of_length_eq_zero (by rw [← HL.out]; rfl)
    exact ⟨_, rfl, Lo.nil, Below.refl _ _⟩
  | some ad =>
    go_enter Try.func51, Try.ntmps51
    go_wp2_with (at_builtin; refine wpList_append_m el el_len (by omega) el_one rfl _ _ 28 rfl w.heap.size 38 i0 (.agg #[.int .i64 0, .int .i64 0, .int .i64 0, .slice none 0 0]) 48 Try.underlying28 hi hz0 hz1 hz2 rfl _ 0 [] rfl (World.ownsRow_made w #[] 0 (Nat.le_refl _) (Nat.zero_le _) rfl) (some ad) cap es es.length rfl rfl (by simp) hc (hr.below (low_alloc w _) (Nat.le_refl _)) (by unfold maxLen; omega) (by omega) (by simp) ?_; intro v1 w1 hown hg hbl)
    go_wp2
    go_ret
    have hb1 := (low_alloc w (.cells #[] 38 (0, 0))).trans hbl
    have hown' : w1.ownsRow w.heap.size 38 4 v1 es.length (es.flatMap el) := by simpa using hown
    exact ⟨_, rfl, ⟨hown', ⟨HL.out, fun i h1 h2 => (HE.out i h1 h2).below hb1 (Nat.le_refl _)⟩, fun g hg e he => by
      obtain ⟨i, hi, rfl⟩ := List.getElem_of_mem he
      exact Far.of_low (HE.out i hi (by have := HL.out; omega)) (hown'.lt g hg).1⟩, hb1⟩

set_option maxHeartbeats 800000 in
/-- A copy of an interrupt: its data are new. -/
theorem lcopied_w {v : Value} {l : Iq.Ln} {w : World} (h : Lv w v l) (hm : l.2.2.2.length ≤ 1000000) :
    Calls Try.prog 43 #[v] w fun e w' => ∃ a m c, e = .returned (.agg #[.int .i64 l.1, .int .i64 l.2.1, .int .i64 l.2.2.1, .slice a m c]) ∧ LnR w' (l.1, l.2.1, l.2.2.1, a, m, c) l ∧ (∀ g, g < w.heap.size → Far g (l.1, l.2.1, l.2.2.1, a, m, c)) ∧ Below w.heap.size w w' := by
  obtain ⟨u, rfl, hs⟩ := h
  obtain ⟨d, t, n, xs⟩ := l
  simp only at hs hm ⊢
  obtain ⟨a, cap, rfl, -⟩ := id hs
  have HS := Lib.hid hs
  clear hs
  have W1 : ∃ W1, W1 = (w.alloc (.cells #[.int .i64 d, .int .i64 t, .int .i64 n, .slice a xs.length cap] 38 (0, 0))).alloc (.cells #[.int .i64 0, .int .i64 0, .int .i64 0, .slice none 0 0] 38 (0, 0)) := ⟨_, rfl⟩
  obtain ⟨W1, hW1⟩ := W1
  have hL : Below w.heap.size w W1 := hW1 ▸ (low_alloc w _).alloc (by simp) _
  have K1 : Bk W1 w.heap.size 38 [.int .i64 d, .int .i64 t, .int .i64 n, .slice a xs.length cap] := hW1 ▸ (Bk.new w _ [_, _, _, _]).alloc _
  have K2 : Bk W1 (w.heap.size + 1) 38 [.int .i64 0, .int .i64 0, .int .i64 0, .slice none 0 0] := hW1 ▸ Bk.newAt _ _ [_, _, _, _] (by simp)
  have hsz : W1.heap.size = w.heap.size + 1 + 1 := by rw [hW1]; simp
  have HC := Lib.hid (bclone_w (HS.out.below hL (Nat.le_refl _)) hm)
  have HK1 := Lib.hid K1
  have HK2 := Lib.hid K2
  have HLL := Lib.hid hL
  have HSZ := Lib.hid hsz
  clear K1 K2 hL hsz
  subst hW1
  go_enter Try.func43, Try.ntmps43
  go_wp2_with (go_at_call 48; refine HC.out.mono ?_; rintro e w3 ⟨v3, rfl, ho3, hb3⟩; obtain ⟨a3, c3, rfl⟩ := own_slice ho3; have hk1 := HK1.out.below hb3 HK1.out.lt; have hk2 := HK2.out.below hb3 HK2.out.lt; have p0 := hk1.cell 0; have p1 := hk1.cell 1; have p2 := hk1.cell 2; have p3 := hk1.cell 3; have z3 := hk1.frozen 3; have o0 := hk2.cell 0; have o1 := hk2.cell 1; have o2 := hk2.cell 2; have o3 := hk2.cell 3; have y0 := hk2.frozen 0; have y1 := hk2.frozen 1; have y2 := hk2.frozen 2; have y3 := hk2.frozen 3; simp only [List.getElem?_cons_zero, List.getElem?_cons_succ] at p0 p1 p2 p3 o0 o1 o2 o3; have hlow := stepAny HLL.out hb3)
  obtain ⟨W9, hW9⟩ : ∃ W9, W9 = (((((w3.setCell ⟨w.heap.size, 3, none⟩ (.slice a3 xs.length c3)).setCell ⟨w.heap.size + 1, 0, none⟩ (.int .i64 d)).setCell ⟨w.heap.size + 1, 1, none⟩ (.int .i64 t)).setCell ⟨w.heap.size + 1, 2, none⟩ (.int .i64 n)).setCell ⟨w.heap.size + 1, 3, none⟩ (.slice a3 xs.length c3)) := ⟨_, rfl⟩
  have hb9 : Below w.heap.size w W9 := hW9 ▸ ((((hlow.setCell (by simp) _).setCell (by simp) _).setCell (by simp) _).setCell (by simp) _).setCell (by simp) _
  have hk9 : ∀ k, w.heap.size + 1 < k → W9.heap[k]? = w3.heap[k]? := fun k hk => by
    rw [hW9, Below.heap_setCell _ _ _ _ (by simp; omega), Below.heap_setCell _ _ _ _ (by simp; omega), Below.heap_setCell _ _ _ _ (by simp; omega), Below.heap_setCell _ _ _ _ (by simp; omega), Below.heap_setCell _ _ _ _ (by simp; omega)]
  rw [HSZ.out] at ho3
  have ho9 : W9.ownsRow (w.heap.size + 1 + 1) 5 1 (.slice a3 xs.length c3) xs.length (xs.map eb) := own_keep ho3 fun k hk => hk9 k (by have := (ho3.lt k hk).1; omega)
  rw [← hW9]
  refine bodyPost_ret (v := .agg #[.int .i64 d, .int .i64 t, .int .i64 n, .slice a3 xs.length c3]) (by rw [hW9]; simp [results, Try.results43, go_sem, o0, o1, o2, o3]) rfl ⟨_, _, _, rfl, ⟨rfl, rfl, rfl, Sl.ofOwn ho9⟩, fun g hg b off ha hm' e' => ?_, hb9⟩
  have hf := (ho9.lt b (by simp only at ha; rw [ha]; rfl)).1
  omega
end Go.Proofs.Ytehniblcodkmaaa
