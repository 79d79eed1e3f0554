/-
  The walk of State.copied.
-/
import Derived.Test.YtehniblcodkmaaaIf
namespace Go.Proofs.Ytehniblcodkmaaa
open Go.RowKit

theorem lo_slice {w : World} {base : Nat} {T : TypeId} {v : Value} {es : List El} {ls : List Iq.Ln} (h : Lo w base T v es ls) : ∃ a c, v = .slice a ls.length c ∧ ls.length ≤ c ∧ c ≤ maxLen := by
  obtain ⟨es', ⟨a, c, h1, h2, h3, _⟩, hl, _⟩ := h.lp
  exact ⟨a, c, by rw [← hl]; exact h1, by omega, h3⟩

/-- Element k of an owned slice: where it lies, and its cells. -/
theorem Lo.at {w : World} {base : Nat} {T : TypeId} {a : Option Addr} {n c : Nat} {es : List El} {ls : List Iq.Ln} (h : Lo w base T (.slice a n c) es ls) (k : Nat) (hk : k < ls.length) :
    ∃ g ad m cc, a = some ⟨g, 0, none⟩ ∧ base ≤ g ∧ g < w.heap.size ∧ n = ls.length ∧ At4 w g (k * 4) ls[k].1 ls[k].2.1 ls[k].2.2.1 (.slice ad m cc) ∧ Lv w (.agg #[.int .i64 ls[k].1, .int .i64 ls[k].2.1, .int .i64 ls[k].2.2.1, .slice ad m cc]) ls[k] ∧ Far g (ls[k].1, ls[k].2.1, ls[k].2.2.1, ad, m, cc) ∧ (∀ j, w.frozen? ⟨g, j, none⟩ = false) ∧ (ls[k].1, ls[k].2.1, ls[k].2.2.1, ad, m, cc) ∈ es := by
  have hl := h.len
  rcases h.own.2 with ⟨h1, h2⟩ | ⟨g, cap, cur, h1, hb, hg, hn, hm, hs, ht⟩
  · omega
  · injection h1 with q1 q2 q3
    subst q1 q3
    subst q2
    obtain ⟨e1, e2, e3, e4⟩ := h.rd.2 k (by omega) hk
    have hf := h.far g rfl es[k] (List.getElem_mem _)
    have hc : ∀ j, j < 4 → w.cell? ⟨g, k * 4 + j, none⟩ = (el (es[k]'(by omega)))[j]? := fun j hj => by
      rw [h.own.cellAt _ (by omega), flat_get el_len es k j (by omega) hj]
    have hmem : es[k]'(by omega) ∈ es := List.getElem_mem _
    generalize es[k]'(by omega) = e at *
    obtain ⟨d, t, x, ad, m, cc⟩ := e
    simp only at e1 e2 e3 e4
    subst e1 e2 e3
    exact ⟨g, ad, m, cc, rfl, hb, (Array.getElem?_eq_some_iff.1 hg).1, by omega, at4_of hc, ⟨_, rfl, e4⟩, hf, fun j => h.own.frozenAt j, hmem⟩

set_option maxRecDepth 20000 in
set_option maxHeartbeats 1600000 in
theorem copied_w {m0 m1 m2 m3 m4 : Bool} {u : Value} {ls : List Iq.Ln} {w : World} (h : Lp w u ls) (hm : ls.length ≤ 100000) (hd : ∀ x ∈ ls, x.2.2.2.length ≤ 1000000) :
    Calls Try.prog 36 #[.agg #[.bool m0, .bool m1, .bool m2, .bool m3, .bool m4, u]] w fun e w' => ∃ v, e = .returned (.agg #[.bool m0, .bool m1, .bool m2, .bool m3, .bool m4, v]) ∧ (∃ es, Lo w' w.heap.size 38 v es ls ∧ ∀ g, g < w.heap.size → ∀ e ∈ es, Far g e) ∧ Below w.heap.size w w' := by
  obtain ⟨es0, hS, hR⟩ := h
  obtain ⟨a, cap, rfl, hc, hcm, hna, -⟩ := id hS
  have HS := Lib.hid hS
  have HR := Lib.hid hR
  have HD := Lib.hid hd
  have HF0 : Hid (∀ g, w.heap.size ≤ g → ∀ e ∈ es0, Far g e) := fun g hg e he => by
    obtain ⟨i, hi, rfl⟩ := List.getElem_of_mem he
    exact Far.of_low (hR.2 i hi (by have := hR.1; omega)) hg
  have hl0 : es0.length = ls.length := hR.1
  have HL0 := Lib.hid hl0
  rw [hl0] at hc HS ⊢
  clear hS hR hd hl0
  unfold maxLen at hcm
  obtain ⟨W1, hW1⟩ : ∃ W1, W1 = (w.alloc (.cells #[.bool m0, .bool m1, .bool m2, .bool m3, .bool m4, .slice a ls.length cap] 30 (0, 0))).alloc (.cells #[.bool false, .bool false, .bool false, .bool false, .bool false, .slice none 0 0] 30 (0, 0)) := ⟨_, rfl⟩
  have hL : Below w.heap.size w W1 := hW1 ▸ (low_alloc w _).alloc (by simp) _
  have HK1 : Hid (Bk W1 w.heap.size 30 (stC m0 m1 m2 m3 m4 (.slice a ls.length cap))) := hW1 ▸ (Bk.new w _ (stC m0 m1 m2 m3 m4 (.slice a ls.length cap))).alloc _
  have HK2 : Hid (Bk W1 (w.heap.size + 1) 30 (stC false false false false false (.slice none 0 0))) := hW1 ▸ Bk.newAt _ _ (stC false false false false false (.slice none 0 0)) (by simp)
  have HSZ : Hid (W1.heap.size = w.heap.size + 1 + 1) := by show _ = _; rw [hW1]; simp
  have HC := Lib.hid (clone_w (HS.out.below hL (Nat.le_refl _)) (HR.out.below hL (Nat.le_refl _)) hm)
  have HLL := Lib.hid hL
  clear hL
  subst hW1
  go_enter Try.func36, Try.ntmps36
  go_wp2_with (go_at_call 51; refine HC.out.mono ?_; rintro e w3 ⟨v3, rfl, ho3, hb3⟩; obtain ⟨a3, c3, rfl, hc3, hcm3⟩ := lo_slice ho3; have hk1 := HK1.out.below hb3 HK1.out.lt; have hk2 := HK2.out.below hb3 HK2.out.lt; have p5 := hk1.cell 5; have z5 := hk1.frozen 5; simp only [stC, List.getElem?_cons_zero, List.getElem?_cons_succ] at p5; have hlow := stepAny HLL.out hb3)
  unfold maxLen at hcm3
  rw [HSZ.out] at ho3
  have hk1' : Bk (w3.setCell ⟨w.heap.size, 5, none⟩ (.slice a3 ls.length c3)) w.heap.size 30 (stC m0 m1 m2 m3 m4 (.slice a3 ls.length c3)) := hk1.set 5 _
  have hk2' : Bk (w3.setCell ⟨w.heap.size, 5, none⟩ (.slice a3 ls.length c3)) (w.heap.size + 1) 30 (stC false false false false false (.slice none 0 0)) := hk2.far (by simp) _
  have hlow' : Below w.heap.size w (w3.setCell ⟨w.heap.size, 5, none⟩ (.slice a3 ls.length c3)) := hlow.setCell (by simp) _
  have ho' : Lo (w3.setCell ⟨w.heap.size, 5, none⟩ (.slice a3 ls.length c3)) (w.heap.size + 1 + 1) 38 (.slice a3 ls.length c3) es0 ls :=
    ho3.other (g0 := w.heap.size) (fun e => by have := (ho3.own.lt _ e).1; omega) (HF0.out _ (Nat.le_refl _)) fun b hb => Below.heap_setCell _ _ _ _ hb
  clear ho3 hk1 hk2 hlow hb3 HC p5 z5
  go_loopw [3, 11] (fun _ i wr => ∃ (k : Nat) (es : List El), i = .int .i64 k ∧ k ≤ ls.length ∧ Lo wr (w.heap.size + 1 + 1) 38 (.slice a3 ls.length c3) es ls ∧ Hid (∀ e ∈ es, Far w.heap.size e ∧ Far (w.heap.size + 1) e) ∧ Hid (∀ j (hj : j < es.length), j < k → ∀ g, g < w.heap.size → Far g es[j]) ∧ Bk wr w.heap.size 30 (stC m0 m1 m2 m3 m4 (.slice a3 ls.length c3)) ∧ Bk wr (w.heap.size + 1) 30 (stC false false false false false (.slice none 0 0)) ∧ Below w.heap.size w wr) (fun _ i _ => ls.length - (intOf i).toNat)
  case atStart => exact ⟨0, es0, rfl, Nat.zero_le _, ho', fun e he => ⟨HF0.out _ (Nat.le_refl _) e he, HF0.out _ (by omega) e he⟩, fun j _ hj => absurd hj (Nat.not_lt_zero _), hk1', hk2', hlow'⟩
  case round =>
    clear ho' hk1' hk2' hlow'
    obtain ⟨k, es, rfl, hk, ho, HF, HN, b1, b2, hbl⟩ := hrel
    have s5 := b1.cell 5
    simp only [stC, List.getElem?_cons_zero, List.getElem?_cons_succ] at s5
    by_cases hlt : k < ls.length
    · obtain ⟨g, ad, m, cc, rfl, hgb, hgl, -, h4, hv, hfar, hfz, -⟩ := ho.at k hlt
      have hdk := HD.out ls[k] (List.getElem_mem hlt)
      have hset : ls.set k ls[k] = ls := List.set_getElem_self hlt
      have HST := Lib.hid hset
      clear hset
      have HO := Lib.hid ho
      have hel : k < es.length := by rw [ho.len]; exact hlt
      have hle : ls.length = es.length := ho.len.symm
      have HLE := Lib.hid hle
      clear ho hle
      have HCW : Hid (∀ W, Below wr.heap.size wr W → Calls Try.prog 43 #[.agg #[.int .i64 ls[k].1, .int .i64 ls[k].2.1, .int .i64 ls[k].2.2.1, .slice ad m cc]] W fun e w' => ∃ a m c, e = .returned (.agg #[.int .i64 ls[k].1, .int .i64 ls[k].2.1, .int .i64 ls[k].2.2.1, .slice a m c]) ∧ LnR w' (ls[k].1, ls[k].2.1, ls[k].2.2.1, a, m, c) ls[k] ∧ (∀ g, g < W.heap.size → Far g (ls[k].1, ls[k].2.1, ls[k].2.2.1, a, m, c)) ∧ Below W.heap.size W w') := fun W hW => lcopied_w (hv.below hW (Nat.le_refl _)) hdk
      have HQ : Hid (∀ W, Below wr.heap.size wr W → W.cell? ⟨w.heap.size, 5, none⟩ = some (.slice (some ⟨g, 0, none⟩) ls.length c3) ∧ At4 W g (k * 4) ls[k].1 ls[k].2.1 ls[k].2.2.1 (.slice ad m cc) ∧ (∀ j, W.frozen? ⟨g, j, none⟩ = false)) := fun W hW =>
        ⟨(b1.below hW b1.lt).cell 5, h4.below hW hgl, fun j => by rw [hW.frozen (p := ⟨g, j, none⟩) hgl]; exact hfz j⟩
      have HX : Hid (∀ W (a : Option Addr) (m c : Nat), Below wr.heap.size wr W → LnR W (ls[k].1, ls[k].2.1, ls[k].2.2.1, a, m, c) ls[k] → (∀ g, g < wr.heap.size → Far g (ls[k].1, ls[k].2.1, ls[k].2.2.1, a, m, c)) → 
          Lo ((((W.setCell ⟨g, k * 4, none⟩ (.int .i64 ls[k].1)).setCell ⟨g, k * 4 + 1, none⟩ (.int .i64 ls[k].2.1)).setCell ⟨g, k * 4 + 2, none⟩ (.int .i64 ls[k].2.2.1)).setCell ⟨g, k * 4 + 3, none⟩ (.slice a m c)) (w.heap.size + 1 + 1) 38 (.slice (some ⟨g, 0, none⟩) ls.length c3) (es.set k (ls[k].1, ls[k].2.1, ls[k].2.2.1, a, m, c)) ls ∧
          (∀ e ∈ es.set k (ls[k].1, ls[k].2.1, ls[k].2.2.1, a, m, c), Far w.heap.size e ∧ Far (w.heap.size + 1) e) ∧
          (∀ j (hj : j < (es.set k (ls[k].1, ls[k].2.1, ls[k].2.2.1, a, m, c)).length), j < k + 1 → ∀ g, g < w.heap.size → Far g (es.set k (ls[k].1, ls[k].2.1, ls[k].2.2.1, a, m, c))[j]) ∧
          Bk ((((W.setCell ⟨g, k * 4, none⟩ (.int .i64 ls[k].1)).setCell ⟨g, k * 4 + 1, none⟩ (.int .i64 ls[k].2.1)).setCell ⟨g, k * 4 + 2, none⟩ (.int .i64 ls[k].2.2.1)).setCell ⟨g, k * 4 + 3, none⟩ (.slice a m c)) w.heap.size 30 (stC m0 m1 m2 m3 m4 (.slice (some ⟨g, 0, none⟩) ls.length c3)) ∧
          Bk ((((W.setCell ⟨g, k * 4, none⟩ (.int .i64 ls[k].1)).setCell ⟨g, k * 4 + 1, none⟩ (.int .i64 ls[k].2.1)).setCell ⟨g, k * 4 + 2, none⟩ (.int .i64 ls[k].2.2.1)).setCell ⟨g, k * 4 + 3, none⟩ (.slice a m c)) (w.heap.size + 1) 30 (stC false false false false false (.slice none 0 0)) ∧
          Below w.heap.size w ((((W.setCell ⟨g, k * 4, none⟩ (.int .i64 ls[k].1)).setCell ⟨g, k * 4 + 1, none⟩ (.int .i64 ls[k].2.1)).setCell ⟨g, k * 4 + 2, none⟩ (.int .i64 ls[k].2.2.1)).setCell ⟨g, k * 4 + 3, none⟩ (.slice a m c))) := fun W a m c hW hn hfn => by
        have h1 := (HO.out.low hW).set (HLE.out) k hel hn (hfn g hgl)
        rw [HST.out] at h1
        refine ⟨h1, fun e he => ?_, fun j hj hjk g' hg' => ?_, ?_, ?_, ?_⟩
        · rcases List.mem_or_eq_of_mem_set he with he | rfl
          · exact HF.out e he
          · exact ⟨hfn _ b1.lt, hfn _ b2.lt⟩
        · rw [List.getElem_set]
          split
          · exact hfn g' (by have := hbl.size; omega)
          · exact HN.out j (by simpa using hj) (by omega) g' hg'
        · exact ((((b1.below hW b1.lt).far (by simp; omega) _).far (by simp; omega) _).far (by simp; omega) _).far (by simp; omega) _
        · exact ((((b2.below hW b2.lt).far (by simp; omega) _).far (by simp; omega) _).far (by simp; omega) _).far (by simp; omega) _
        · exact ((((stepAny hbl hW).setCell (by simp; omega) _).setCell (by simp; omega) _).setCell (by simp; omega) _).setCell (by simp; omega) _
      clear hfz h4 hv b1 b2 HF hfar hel
      have f1 : (0 : Int) ≤ (k : Int) := by omega
      have f2 : (k : Int) < (ls.length : Int) := by omega
      have hl0 := low_drew wr
      obtain ⟨q5, ⟨q0, q1, q2, q3⟩, -⟩ := HQ.out wr.drew hl0
      generalize ls[k] = y at *
      obtain ⟨d, t, x, ys⟩ := y
      simp only at *
      go_wp2_with fail
      go_region_with ((first
        | (go_at_call 43; refine (HCW.out _ (by assumption)).mono ?_; rintro e w4 ⟨a4, m4, c4, rfl, hn4, hf4, hb4⟩; have hl4 := stepAny (by assumption) hb4; obtain ⟨q54, ⟨q04, q14, q24, q34⟩, hz4⟩ := HQ.out w4 hl4; have z0 := hz4 (k * 4); have z1 := hz4 (k * 4 + 1); have z2 := hz4 (k * 4 + 2); have z3 := hz4 (k * 4 + 3); clear hz4)))
      all_goals
        obtain ⟨x1, x2, x2', x3, x4, x5⟩ := HX.out w4 a4 m4 c4 hl4 hn4 (fun g hg => hf4 g hg)
        clear HX HQ HCW hf4
        go_wp2
        go_roundw
        case rel => exact ⟨k + 1, _, by go_num, by omega, x1, x2, x2', x3, x4, x5⟩
        case measure => simp [intOf]; omega
    · have p0 := b1.cell 0
      have p1 := b1.cell 1
      have p2 := b1.cell 2
      have p3 := b1.cell 3
      have p4 := b1.cell 4
      have o0 := b2.cell 0
      have o1 := b2.cell 1
      have o2 := b2.cell 2
      have o3 := b2.cell 3
      have o4 := b2.cell 4
      have o5 := b2.cell 5
      have y0 := b2.frozen 0
      have y1 := b2.frozen 1
      have y2 := b2.frozen 2
      have y3 := b2.frozen 3
      have y4 := b2.frozen 4
      have y5 := b2.frozen 5
      simp only [stC, List.getElem?_cons_zero, List.getElem?_cons_succ] at p0 p1 p2 p3 p4 o0 o1 o2 o3 o4 o5
      have HK9 : Hid (∀ W9, (∀ b, b ≠ w.heap.size + 1 → W9.heap[b]? = wr.heap[b]?) → Lo W9 w.heap.size 38 (.slice a3 ls.length c3) es ls) := fun W9 hk9 => by
        have h1 := ho.other (w' := W9) (g0 := w.heap.size + 1) (fun e => by have := (ho.own.lt _ e).1; omega) (fun e he => (HF.out e he).2) hk9
        refine ⟨⟨h1.own.1, h1.own.2.elim .inl ?_⟩, h1.rd, h1.far⟩
        rintro ⟨g, cap, cur, q1, q2, q3⟩
        exact .inr ⟨g, cap, cur, q1, by omega, q3⟩
      have HK8 : Hid (es.length ≤ k) := by have := ho.len; show _ ≤ _; omega
      clear ho HF
      go_wp2
      refine bodyPost_ret (v := .agg #[.bool m0, .bool m1, .bool m2, .bool m3, .bool m4, .slice a3 ls.length c3]) (by simp [results, Try.results36, go_sem, o0, o1, o2, o3, o4, o5]) rfl ⟨_, rfl, ⟨es, HK9.out _ fun b hb => ?_, fun g hg e he => ?_⟩, ?_⟩
      · rw [Below.heap_setCell _ _ _ _ hb, Below.heap_setCell _ _ _ _ hb, Below.heap_setCell _ _ _ _ hb, Below.heap_setCell _ _ _ _ hb, Below.heap_setCell _ _ _ _ hb, Below.heap_setCell _ _ _ _ hb]
      · obtain ⟨j, hj, rfl⟩ := List.getElem_of_mem he
        exact HN.out j hj (by have := HK8.out; omega) g hg
      · exact (((((hbl.setCell (by simp) _).setCell (by simp) _).setCell (by simp) _).setCell (by simp) _).setCell (by simp) _).setCell (by simp) _
end Go.Proofs.Ytehniblcodkmaaa
