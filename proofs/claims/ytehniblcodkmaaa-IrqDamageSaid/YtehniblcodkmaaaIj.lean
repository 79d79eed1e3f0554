/-
  The walks of Mask and Driver, of irq and of the reference.
-/
import Derived.Test.YtehniblcodkmaaaIi
namespace Go.Proofs.Ytehniblcodkmaaa
open Go.RowKit

/-- The boxes of Mask in every later world. -/
def SK (w : World) (T1 : TypeId) (m0 m1 m2 m3 m4 : Bool) (u : Value) (W : World) : Prop :=
  Keeps w [(w.heap.size, T1, stC m0 m1 m2 m3 m4 u), (w.heap.size + 1, T1, stC false false false false false (.slice none 0 0))] W

section
variable {w W W' : World} {T1 : TypeId} {m0 m1 m2 m3 m4 : Bool} {u : Value}
theorem SK.start : SK w T1 m0 m1 m2 m3 m4 u ((w.alloc (.cells #[.bool m0, .bool m1, .bool m2, .bool m3, .bool m4, u] T1 (0, 0))).alloc (.cells #[.bool false, .bool false, .bool false, .bool false, .bool false, .slice none 0 0] T1 (0, 0))) :=
  (((Keeps.start w).add T1 (stC m0 m1 m2 m3 m4 u) rfl).add T1 (stC false false false false false (.slice none 0 0)) (n := w.heap.size + 1) (by simp)).less (by simp)
theorem SK.step (h : SK w T1 m0 m1 m2 m3 m4 u W) (hb : Below W.heap.size W W') : SK w T1 m0 m1 m2 m3 m4 u W' := Keeps.step h hb
theorem SK.low (h : SK w T1 m0 m1 m2 m3 m4 u W) : Below w.heap.size w W := h.1
theorem SK.b0 (h : SK w T1 m0 m1 m2 m3 m4 u W) : Bk W w.heap.size T1 (stC m0 m1 m2 m3 m4 u) := h.2 _ (.head _)
theorem SK.b1 (h : SK w T1 m0 m1 m2 m3 m4 u W) : Bk W (w.heap.size + 1) T1 (stC false false false false false (.slice none 0 0)) := h.2 _ (.tail _ (.head _))
theorem SK.set6 (h : SK w T1 m0 m1 m2 m3 m4 u W) (n0 n1 n2 n3 n4 : Bool) (v : Value) :
    SK w T1 n0 n1 n2 n3 n4 v ((((((W.setCell ⟨w.heap.size, 0, none⟩ (.bool n0)).setCell ⟨w.heap.size, 1, none⟩ (.bool n1)).setCell ⟨w.heap.size, 2, none⟩ (.bool n2)).setCell ⟨w.heap.size, 3, none⟩ (.bool n3)).setCell ⟨w.heap.size, 4, none⟩ (.bool n4)).setCell ⟨w.heap.size, 5, none⟩ v) :=
  ⟨Go.Proofs.Ytehniblcodkmaaa.set6 h.low (Nat.le_refl _) _ _ _ _ _ _, fun e he => by
    rcases List.mem_cons.1 he with rfl | he
    · exact (((((h.b0.set 0 (.bool n0)).set 1 (.bool n1)).set 2 (.bool n2)).set 3 (.bool n3)).set 4 (.bool n4)).set 5 v
    · rcases List.mem_cons.1 he with rfl | he
      · exact h.b1.keep (set6_heap (by simp) _ _ _ _ _ _)
      · cases he⟩
end

/-- A store into two other blocks. -/
theorem Lo.other2 {w w' : World} {base : Nat} {T : TypeId} {v : Value} {es : List El} {ls : List Iq.Ln} (h : Lo w base T v es ls) {g0 g1 : Nat} (hv : ∀ g, v.ownBlock = some g → g ≠ g0 ∧ g ≠ g1) (hf : ∀ e ∈ es, Far g0 e ∧ Far g1 e) (hk : ∀ b, b ≠ g0 → b ≠ g1 → w'.heap[b]? = w.heap[b]?) {B : Nat} (hB : B ≤ base) (hfB : ∀ e ∈ es, ∀ g, g < B → Far g e) : LpF B w' v ls := by
  have ho : w'.ownsRow base T 4 v es.length (es.flatMap el) := own_keep4 h.own fun k hk' => hk k (hv k hk').1 (hv k hk').2
  refine Lo.lpf (T := T) (base := base) ⟨ho, ⟨h.rd.1, fun i h1 h2 => ?_⟩, h.far⟩ hB hfB
  obtain ⟨e1, e2, e3, a2, c2, q1, q2, q3, q4, q5⟩ := h.rd.2 i h1 h2
  refine ⟨e1, e2, e3, a2, c2, q1, q2, q3, q4, fun j hj => ?_⟩
  obtain ⟨b, off, ha, hlt, hc⟩ := q5 j hj
  injection q1 with r1 r2 r3
  have hm : es[i].2.2.2.2.1 ≠ 0 := by omega
  have hb := hk b ((hf _ (List.getElem_mem h1)).1 b off (by rw [r1, ha]) hm) ((hf _ (List.getElem_mem h1)).2 b off (by rw [r1, ha]) hm)
  refine ⟨b, off, ha, ?_, by rw [World.cell?_of_block (a := ⟨b, off + j, none⟩) hb]; exact hc⟩
  rw [Array.getElem?_eq_getElem hlt] at hb
  exact (Array.getElem?_eq_some_iff.1 hb).1

theorem mask_cases (n : Int) (h : Iq.device n = true) : n = 1 ∨ n = 2 ∨ n = 3 ∨ n = 4 := by
  unfold Iq.device at h
  simp at h
  omega


set_option maxRecDepth 20000 in
set_option maxHeartbeats 3200000 in
theorem mask_w {m0 m1 m2 m3 m4 : Bool} {u : Value} {ls : List Iq.Ln} {w : World} (n : Int) (on : Bool) (h : Lp w u ls) :
    Calls Try.prog 14 #[.agg #[.bool m0, .bool m1, .bool m2, .bool m3, .bool m4, u], .int .i64 n, .bool on] w (RetSF w (Iq.mask ([m0, m1, m2, m3, m4], ls) n on)) := by
  have HLP : Hid (∀ W, Below w.heap.size w W → Lp W u ls) := fun W hW => h.below hW (Nat.le_refl _)
  have HV : Hid (∀ W, Below w.heap.size w W → Calls Try.prog 25 #[.agg #[.bool m0, .bool m1, .bool m2, .bool m3, .bool m4, u]] W fun e w' => e = .returned (.bool (Iq.valid ([m0, m1, m2, m3, m4], ls))) ∧ Below W.heap.size W w') := fun W hW => valid_w (HLP.out W hW)
  have HD : Hid (∀ W, Calls Try.prog 35 #[.int .i64 n] W fun e w' => e = .returned (.bool (Iq.device n)) ∧ W = w') := fun W => device_w n W
  obtain ⟨a, cap, rfl, hc, hcm, -⟩ := h.open
  clear h
  have HST := Lib.hid (SK.start (w := w) (T1 := 30) (m0 := m0) (m1 := m1) (m2 := m2) (m3 := m3) (m4 := m4) (u := .slice a ls.length cap))
  generalize hr : Iq.mask ([m0, m1, m2, m3, m4], ls) n on = r
  unfold Iq.mask at hr
  cases hv : Iq.valid ([m0, m1, m2, m3, m4], ls) with
  | false =>
    rw [hv] at HV hr
    simp only [if_pos] at hr
    subst hr
    clear hv HD HLP
    go_enter Try.func14, Try.ntmps14
    go_wp2_with (go_at_call 25; refine (HV.out _ HST.out.low).mono ?_; rintro e w1 ⟨rfl, hb1⟩; have hk1 := HST.out.step hb1; obtain ⟨p0, p1, p2, p3, p4, p5, z0, z1, z2, z3, z4, z5⟩ := hk1.b1.box)
    refine bodyPost_ret (v := .tuple #[.agg #[.bool false, .bool false, .bool false, .bool false, .bool false, .slice none 0 0], .int .i64 1]) (by simp [results, Try.results14, go_sem, p0, p1, p2, p3, p4, p5]) rfl (RetSF.zero ?_)
    exact set6 hk1.low (by omega) _ _ _ _ _ _
  | true =>
    have hd : ∀ y ∈ ls, y.2.2.2.length ≤ 1000000 := fun y hy => by
      obtain ⟨k, hk, rfl⟩ := List.getElem_of_mem hy
      have := (Iq.proper_bd hv k hk).2.2.2
      simp only at this
      omega
    have hml : ls.length ≤ 32 := (Iq.valid_iff.1 hv).2.1
    rw [hv] at HV hr
    simp only [Bool.true_eq_false, if_false] at hr
    cases hp : Iq.device n with
    | false =>
      rw [hp] at HD hr
      simp only [if_pos] at hr
      subst hr
      clear hv HLP hp hd hml
      go_enter Try.func14, Try.ntmps14
      go_wp2_with (first
        | (go_at_call 25; refine (HV.out _ HST.out.low).mono ?_; rintro e w1 ⟨rfl, hb1⟩; have hk1 := HST.out.step hb1; obtain ⟨p0, p1, p2, p3, p4, p5, z0, z1, z2, z3, z4, z5⟩ := hk1.b1.box)
        | (go_at_call 35; refine (HD.out _).mono ?_; rintro e w2 ⟨rfl, rfl⟩))
      refine bodyPost_ret (v := .tuple #[.agg #[.bool false, .bool false, .bool false, .bool false, .bool false, .slice none 0 0], .int .i64 2]) (by simp [results, Try.results14, go_sem, p0, p1, p2, p3, p4, p5]) rfl (RetSF.zero ?_)
      exact set6 hk1.low (by omega) _ _ _ _ _ _
    | true =>
      have h4 := mask_cases n hp
      rw [hp] at HD hr
      simp only [Bool.true_eq_false, if_false] at hr
      subst hr
      have HCP : Hid (∀ W, Below w.heap.size w W → Calls Try.prog 36 #[.agg #[.bool m0, .bool m1, .bool m2, .bool m3, .bool m4, .slice a ls.length cap]] W fun e w' => ∃ v, e = .returned (.agg #[.bool m0, .bool m1, .bool m2, .bool m3, .bool m4, v]) ∧ (∃ es, Lo w' W.heap.size 38 v es ls ∧ ∀ g, g < W.heap.size → ∀ e ∈ es, Far g e) ∧ Below W.heap.size W w') := fun W hW => copied_w (HLP.out W hW) (by omega) hd
      clear hv HLP hp hd hml
      rcases h4 with rfl | rfl | rfl | rfl
      · go_enter Try.func14, Try.ntmps14
        go_upto_region 6 with (first
          | (go_at_call 25; refine (HV.out _ HST.out.low).mono ?_; rintro e w1 ⟨rfl, hb1⟩; have hk1 := HST.out.step hb1; obtain ⟨x0, x1, x2, x3, x4, x5, -⟩ := hk1.b0.box)
          | (go_at_call 35; refine (HD.out _).mono ?_; rintro e w2 ⟨rfl, rfl⟩)
          | (go_at_call 36; refine (HCP.out _ hk1.low).mono ?_; rintro e w4 ⟨v4, rfl, ⟨es, ho4, hf4⟩, hb4⟩; obtain ⟨a4, c4, rfl, hc4, hcm4⟩ := lo_slice ho4; have hk4 := hk1.step hb4; obtain ⟨r0, r1, r2, r3, r4, r5, y0, y1, y2, y3, y4, y5⟩ := hk4.b0.box))
        have hlt0 := hk1.b0.lt
        have hlt1 := hk1.b1.lt
        have hk5 := hk4.set6 m0 m1 m2 m3 m4 (.slice a4 ls.length c4)
        have hW : ∀ b, b ≠ w.heap.size → ((((((w4.setCell ⟨w.heap.size, 0, none⟩ (.bool m0)).setCell ⟨w.heap.size, 1, none⟩ (.bool m1)).setCell ⟨w.heap.size, 2, none⟩ (.bool m2)).setCell ⟨w.heap.size, 3, none⟩ (.bool m3)).setCell ⟨w.heap.size, 4, none⟩ (.bool m4)).setCell ⟨w.heap.size, 5, none⟩ (.slice a4 ls.length c4)).heap[b]? = w4.heap[b]? := fun b hb => set6_heap hb _ _ _ _ _ _
        generalize (((((w4.setCell ⟨w.heap.size, 0, none⟩ (.bool m0)).setCell ⟨w.heap.size, 1, none⟩ (.bool m1)).setCell ⟨w.heap.size, 2, none⟩ (.bool m2)).setCell ⟨w.heap.size, 3, none⟩ (.bool m3)).setCell ⟨w.heap.size, 4, none⟩ (.bool m4)).setCell ⟨w.heap.size, 5, none⟩ (.slice a4 ls.length c4) = W5 at *
        have HFIN : Hid (∀ W9, (∀ b, b ≠ w.heap.size → b ≠ w.heap.size + 1 → W9.heap[b]? = W5.heap[b]?) → LpF w.heap.size W9 (.slice a4 ls.length c4) ls) := fun W9 hk9 => by
          have h5 := ho4.other (w' := W5) (g0 := w.heap.size) (fun e => by have := (ho4.own.lt _ e).1; omega) (hf4 _ hlt0) hW
          exact h5.other2 (fun g hg => ⟨by have := (h5.own.lt g hg).1; omega, by have := (h5.own.lt g hg).1; omega⟩) (fun e he => ⟨hf4 _ hlt0 e he, hf4 _ hlt1 e he⟩) hk9 (by omega) (fun e he g hg => hf4 g (by omega) e he)
        clear hW ho4 hf4 hk4 hk1 hb1 hb4 x0 x1 x2 x3 x4 x5 r0 r1 r2 r3 r4 r5 y0 y1 y2 y3 y4 y5 HV HD HCP HST
        have hlow := hk5.low
        obtain ⟨r0, r1, r2, r3, r4, r5, y0, y1, y2, y3, y4, y5⟩ := hk5.b0.box
        obtain ⟨p0, p1, p2, p3, p4, p5, z0, z1, z2, z3, z4, z5⟩ := hk5.b1.box
        clear hk5
        go_wp2
        refine bodyPost_ret (v := .tuple #[.agg #[.bool m0, .bool on, .bool m2, .bool m3, .bool m4, .slice a4 ls.length c4], .int .i64 0]) (by simp [results, Try.results14, go_sem, p0, p1, p2, p3, p4, p5]) rfl ⟨m0, on, m2, m3, m4, _, rfl, rfl, HFIN.out _ fun b hb hb2 => ?_, set6 (hlow.setCell (Nat.le_refl _) _) (by omega) _ _ _ _ _ _⟩
        rw [set6_heap hb2]
        exact Below.heap_setCell _ _ _ _ hb
      · go_enter Try.func14, Try.ntmps14
        go_upto_region 6 with (first
          | (go_at_call 25; refine (HV.out _ HST.out.low).mono ?_; rintro e w1 ⟨rfl, hb1⟩; have hk1 := HST.out.step hb1; obtain ⟨x0, x1, x2, x3, x4, x5, -⟩ := hk1.b0.box)
          | (go_at_call 35; refine (HD.out _).mono ?_; rintro e w2 ⟨rfl, rfl⟩)
          | (go_at_call 36; refine (HCP.out _ hk1.low).mono ?_; rintro e w4 ⟨v4, rfl, ⟨es, ho4, hf4⟩, hb4⟩; obtain ⟨a4, c4, rfl, hc4, hcm4⟩ := lo_slice ho4; have hk4 := hk1.step hb4; obtain ⟨r0, r1, r2, r3, r4, r5, y0, y1, y2, y3, y4, y5⟩ := hk4.b0.box))
        have hlt0 := hk1.b0.lt
        have hlt1 := hk1.b1.lt
        have hk5 := hk4.set6 m0 m1 m2 m3 m4 (.slice a4 ls.length c4)
        have hW : ∀ b, b ≠ w.heap.size → ((((((w4.setCell ⟨w.heap.size, 0, none⟩ (.bool m0)).setCell ⟨w.heap.size, 1, none⟩ (.bool m1)).setCell ⟨w.heap.size, 2, none⟩ (.bool m2)).setCell ⟨w.heap.size, 3, none⟩ (.bool m3)).setCell ⟨w.heap.size, 4, none⟩ (.bool m4)).setCell ⟨w.heap.size, 5, none⟩ (.slice a4 ls.length c4)).heap[b]? = w4.heap[b]? := fun b hb => set6_heap hb _ _ _ _ _ _
        generalize (((((w4.setCell ⟨w.heap.size, 0, none⟩ (.bool m0)).setCell ⟨w.heap.size, 1, none⟩ (.bool m1)).setCell ⟨w.heap.size, 2, none⟩ (.bool m2)).setCell ⟨w.heap.size, 3, none⟩ (.bool m3)).setCell ⟨w.heap.size, 4, none⟩ (.bool m4)).setCell ⟨w.heap.size, 5, none⟩ (.slice a4 ls.length c4) = W5 at *
        have HFIN : Hid (∀ W9, (∀ b, b ≠ w.heap.size → b ≠ w.heap.size + 1 → W9.heap[b]? = W5.heap[b]?) → LpF w.heap.size W9 (.slice a4 ls.length c4) ls) := fun W9 hk9 => by
          have h5 := ho4.other (w' := W5) (g0 := w.heap.size) (fun e => by have := (ho4.own.lt _ e).1; omega) (hf4 _ hlt0) hW
          exact h5.other2 (fun g hg => ⟨by have := (h5.own.lt g hg).1; omega, by have := (h5.own.lt g hg).1; omega⟩) (fun e he => ⟨hf4 _ hlt0 e he, hf4 _ hlt1 e he⟩) hk9 (by omega) (fun e he g hg => hf4 g (by omega) e he)
        clear hW ho4 hf4 hk4 hk1 hb1 hb4 x0 x1 x2 x3 x4 x5 r0 r1 r2 r3 r4 r5 y0 y1 y2 y3 y4 y5 HV HD HCP HST
        have hlow := hk5.low
        obtain ⟨r0, r1, r2, r3, r4, r5, y0, y1, y2, y3, y4, y5⟩ := hk5.b0.box
        obtain ⟨p0, p1, p2, p3, p4, p5, z0, z1, z2, z3, z4, z5⟩ := hk5.b1.box
        clear hk5
        go_wp2
        refine bodyPost_ret (v := .tuple #[.agg #[.bool m0, .bool m1, .bool on, .bool m3, .bool m4, .slice a4 ls.length c4], .int .i64 0]) (by simp [results, Try.results14, go_sem, p0, p1, p2, p3, p4, p5]) rfl ⟨m0, m1, on, m3, m4, _, rfl, rfl, HFIN.out _ fun b hb hb2 => ?_, set6 (hlow.setCell (Nat.le_refl _) _) (by omega) _ _ _ _ _ _⟩
        rw [set6_heap hb2]
        exact Below.heap_setCell _ _ _ _ hb
      · go_enter Try.func14, Try.ntmps14
        go_upto_region 6 with (first
          | (go_at_call 25; refine (HV.out _ HST.out.low).mono ?_; rintro e w1 ⟨rfl, hb1⟩; have hk1 := HST.out.step hb1; obtain ⟨x0, x1, x2, x3, x4, x5, -⟩ := hk1.b0.box)
          | (go_at_call 35; refine (HD.out _).mono ?_; rintro e w2 ⟨rfl, rfl⟩)
          | (go_at_call 36; refine (HCP.out _ hk1.low).mono ?_; rintro e w4 ⟨v4, rfl, ⟨es, ho4, hf4⟩, hb4⟩; obtain ⟨a4, c4, rfl, hc4, hcm4⟩ := lo_slice ho4; have hk4 := hk1.step hb4; obtain ⟨r0, r1, r2, r3, r4, r5, y0, y1, y2, y3, y4, y5⟩ := hk4.b0.box))
        have hlt0 := hk1.b0.lt
        have hlt1 := hk1.b1.lt
        have hk5 := hk4.set6 m0 m1 m2 m3 m4 (.slice a4 ls.length c4)
        have hW : ∀ b, b ≠ w.heap.size → ((((((w4.setCell ⟨w.heap.size, 0, none⟩ (.bool m0)).setCell ⟨w.heap.size, 1, none⟩ (.bool m1)).setCell ⟨w.heap.size, 2, none⟩ (.bool m2)).setCell ⟨w.heap.size, 3, none⟩ (.bool m3)).setCell ⟨w.heap.size, 4, none⟩ (.bool m4)).setCell ⟨w.heap.size, 5, none⟩ (.slice a4 ls.length c4)).heap[b]? = w4.heap[b]? := fun b hb => set6_heap hb _ _ _ _ _ _
        generalize (((((w4.setCell ⟨w.heap.size, 0, none⟩ (.bool m0)).setCell ⟨w.heap.size, 1, none⟩ (.bool m1)).setCell ⟨w.heap.size, 2, none⟩ (.bool m2)).setCell ⟨w.heap.size, 3, none⟩ (.bool m3)).setCell ⟨w.heap.size, 4, none⟩ (.bool m4)).setCell ⟨w.heap.size, 5, none⟩ (.slice a4 ls.length c4) = W5 at *
        have HFIN : Hid (∀ W9, (∀ b, b ≠ w.heap.size → b ≠ w.heap.size + 1 → W9.heap[b]? = W5.heap[b]?) → LpF w.heap.size W9 (.slice a4 ls.length c4) ls) := fun W9 hk9 => by
          have h5 := ho4.other (w' := W5) (g0 := w.heap.size) (fun e => by have := (ho4.own.lt _ e).1; omega) (hf4 _ hlt0) hW
          exact h5.other2 (fun g hg => ⟨by have := (h5.own.lt g hg).1; omega, by have := (h5.own.lt g hg).1; omega⟩) (fun e he => ⟨hf4 _ hlt0 e he, hf4 _ hlt1 e he⟩) hk9 (by omega) (fun e he g hg => hf4 g (by omega) e he)
        clear hW ho4 hf4 hk4 hk1 hb1 hb4 x0 x1 x2 x3 x4 x5 r0 r1 r2 r3 r4 r5 y0 y1 y2 y3 y4 y5 HV HD HCP HST
        have hlow := hk5.low
        obtain ⟨r0, r1, r2, r3, r4, r5, y0, y1, y2, y3, y4, y5⟩ := hk5.b0.box
        obtain ⟨p0, p1, p2, p3, p4, p5, z0, z1, z2, z3, z4, z5⟩ := hk5.b1.box
        clear hk5
        go_wp2
        refine bodyPost_ret (v := .tuple #[.agg #[.bool m0, .bool m1, .bool m2, .bool on, .bool m4, .slice a4 ls.length c4], .int .i64 0]) (by simp [results, Try.results14, go_sem, p0, p1, p2, p3, p4, p5]) rfl ⟨m0, m1, m2, on, m4, _, rfl, rfl, HFIN.out _ fun b hb hb2 => ?_, set6 (hlow.setCell (Nat.le_refl _) _) (by omega) _ _ _ _ _ _⟩
        rw [set6_heap hb2]
        exact Below.heap_setCell _ _ _ _ hb
      · go_enter Try.func14, Try.ntmps14
        go_upto_region 6 with (first
          | (go_at_call 25; refine (HV.out _ HST.out.low).mono ?_; rintro e w1 ⟨rfl, hb1⟩; have hk1 := HST.out.step hb1; obtain ⟨x0, x1, x2, x3, x4, x5, -⟩ := hk1.b0.box)
          | (go_at_call 35; refine (HD.out _).mono ?_; rintro e w2 ⟨rfl, rfl⟩)
          | (go_at_call 36; refine (HCP.out _ hk1.low).mono ?_; rintro e w4 ⟨v4, rfl, ⟨es, ho4, hf4⟩, hb4⟩; obtain ⟨a4, c4, rfl, hc4, hcm4⟩ := lo_slice ho4; have hk4 := hk1.step hb4; obtain ⟨r0, r1, r2, r3, r4, r5, y0, y1, y2, y3, y4, y5⟩ := hk4.b0.box))
        have hlt0 := hk1.b0.lt
        have hlt1 := hk1.b1.lt
        have hk5 := hk4.set6 m0 m1 m2 m3 m4 (.slice a4 ls.length c4)
        have hW : ∀ b, b ≠ w.heap.size → ((((((w4.setCell ⟨w.heap.size, 0, none⟩ (.bool m0)).setCell ⟨w.heap.size, 1, none⟩ (.bool m1)).setCell ⟨w.heap.size, 2, none⟩ (.bool m2)).setCell ⟨w.heap.size, 3, none⟩ (.bool m3)).setCell ⟨w.heap.size, 4, none⟩ (.bool m4)).setCell ⟨w.heap.size, 5, none⟩ (.slice a4 ls.length c4)).heap[b]? = w4.heap[b]? := fun b hb => set6_heap hb _ _ _ _ _ _
        generalize (((((w4.setCell ⟨w.heap.size, 0, none⟩ (.bool m0)).setCell ⟨w.heap.size, 1, none⟩ (.bool m1)).setCell ⟨w.heap.size, 2, none⟩ (.bool m2)).setCell ⟨w.heap.size, 3, none⟩ (.bool m3)).setCell ⟨w.heap.size, 4, none⟩ (.bool m4)).setCell ⟨w.heap.size, 5, none⟩ (.slice a4 ls.length c4) = W5 at *
        have HFIN : Hid (∀ W9, (∀ b, b ≠ w.heap.size → b ≠ w.heap.size + 1 → W9.heap[b]? = W5.heap[b]?) → LpF w.heap.size W9 (.slice a4 ls.length c4) ls) := fun W9 hk9 => by
          have h5 := ho4.other (w' := W5) (g0 := w.heap.size) (fun e => by have := (ho4.own.lt _ e).1; omega) (hf4 _ hlt0) hW
          exact h5.other2 (fun g hg => ⟨by have := (h5.own.lt g hg).1; omega, by have := (h5.own.lt g hg).1; omega⟩) (fun e he => ⟨hf4 _ hlt0 e he, hf4 _ hlt1 e he⟩) hk9 (by omega) (fun e he g hg => hf4 g (by omega) e he)
        clear hW ho4 hf4 hk4 hk1 hb1 hb4 x0 x1 x2 x3 x4 x5 r0 r1 r2 r3 r4 r5 y0 y1 y2 y3 y4 y5 HV HD HCP HST
        have hlow := hk5.low
        obtain ⟨r0, r1, r2, r3, r4, r5, y0, y1, y2, y3, y4, y5⟩ := hk5.b0.box
        obtain ⟨p0, p1, p2, p3, p4, p5, z0, z1, z2, z3, z4, z5⟩ := hk5.b1.box
        clear hk5
        go_wp2
        refine bodyPost_ret (v := .tuple #[.agg #[.bool m0, .bool m1, .bool m2, .bool m3, .bool on, .slice a4 ls.length c4], .int .i64 0]) (by simp [results, Try.results14, go_sem, p0, p1, p2, p3, p4, p5]) rfl ⟨m0, m1, m2, m3, on, _, rfl, rfl, HFIN.out _ fun b hb hb2 => ?_, set6 (hlow.setCell (Nat.le_refl _) _) (by omega) _ _ _ _ _ _⟩
        rw [set6_heap hb2]
        exact Below.heap_setCell _ _ _ _ hb

set_option maxRecDepth 20000 in
set_option maxHeartbeats 3200000 in
theorem rmask_w {m0 m1 m2 m3 m4 : Bool} {u : Value} {ls : List Iq.Ln} {w : World} (n : Int) (on : Bool) (h : Lp w u ls) :
    Calls Try.prog 22 #[.agg #[.bool m0, .bool m1, .bool m2, .bool m3, .bool m4, u], .int .i64 n, .bool on] w (RetSt w (Iq.mask ([m0, m1, m2, m3, m4], ls) n on)) := by
  have HLP : Hid (∀ W, Below w.heap.size w W → Lp W u ls) := fun W hW => h.below hW (Nat.le_refl _)
  have HV : Hid (∀ W, Below w.heap.size w W → Calls Try.prog 12 #[.agg #[.bool m0, .bool m1, .bool m2, .bool m3, .bool m4, u]] W fun e w' => e = .returned (.bool (Iq.valid ([m0, m1, m2, m3, m4], ls))) ∧ Below W.heap.size W w') := fun W hW => rvalid_w (HLP.out W hW)
  have HD : Hid (∀ W, Calls Try.prog 41 #[.int .i64 n] W fun e w' => e = .returned (.bool (Iq.device n)) ∧ W = w') := fun W => rdevice_w n W
  obtain ⟨a, cap, rfl, hc, hcm, -⟩ := h.open
  clear h
  have HST := Lib.hid (SK.start (w := w) (T1 := 25) (m0 := m0) (m1 := m1) (m2 := m2) (m3 := m3) (m4 := m4) (u := .slice a ls.length cap))
  generalize hr : Iq.mask ([m0, m1, m2, m3, m4], ls) n on = r
  unfold Iq.mask at hr
  cases hv : Iq.valid ([m0, m1, m2, m3, m4], ls) with
  | false =>
    rw [hv] at HV hr
    simp only [if_pos] at hr
    subst hr
    clear hv HD HLP
    go_enter Try.func22, Try.ntmps22
    go_wp2_with (go_at_call 12; refine (HV.out _ HST.out.low).mono ?_; rintro e w1 ⟨rfl, hb1⟩; have hk1 := HST.out.step hb1; obtain ⟨p0, p1, p2, p3, p4, p5, z0, z1, z2, z3, z4, z5⟩ := hk1.b1.box)
    refine bodyPost_ret (v := .tuple #[.agg #[.bool false, .bool false, .bool false, .bool false, .bool false, .slice none 0 0], .int .i64 1]) (by simp [results, Try.results22, go_sem, p0, p1, p2, p3, p4, p5]) rfl (RetSt.zero ?_)
    exact set6 hk1.low (by omega) _ _ _ _ _ _
  | true =>
    have hd : ∀ y ∈ ls, y.2.2.2.length ≤ 1000000 := fun y hy => by
      obtain ⟨k, hk, rfl⟩ := List.getElem_of_mem hy
      have := (Iq.proper_bd hv k hk).2.2.2
      simp only at this
      omega
    have hml : ls.length ≤ 32 := (Iq.valid_iff.1 hv).2.1
    rw [hv] at HV hr
    simp only [Bool.true_eq_false, if_false] at hr
    cases hp : Iq.device n with
    | false =>
      rw [hp] at HD hr
      simp only [if_pos] at hr
      subst hr
      clear hv HLP hp hd hml
      go_enter Try.func22, Try.ntmps22
      go_wp2_with (first
        | (go_at_call 12; refine (HV.out _ HST.out.low).mono ?_; rintro e w1 ⟨rfl, hb1⟩; have hk1 := HST.out.step hb1; obtain ⟨p0, p1, p2, p3, p4, p5, z0, z1, z2, z3, z4, z5⟩ := hk1.b1.box)
        | (go_at_call 41; refine (HD.out _).mono ?_; rintro e w2 ⟨rfl, rfl⟩))
      refine bodyPost_ret (v := .tuple #[.agg #[.bool false, .bool false, .bool false, .bool false, .bool false, .slice none 0 0], .int .i64 2]) (by simp [results, Try.results22, go_sem, p0, p1, p2, p3, p4, p5]) rfl (RetSt.zero ?_)
      exact set6 hk1.low (by omega) _ _ _ _ _ _
    | true =>
      have h4 := mask_cases n hp
      rw [hp] at HD hr
      simp only [Bool.true_eq_false, if_false] at hr
      subst hr
      clear hv hp hd hml
      rcases h4 with rfl | rfl | rfl | rfl
      all_goals
        go_enter Try.func22, Try.ntmps22
        go_wp2_with (first
          | (go_at_call 12; refine (HV.out _ HST.out.low).mono ?_; rintro e w1 ⟨rfl, hb1⟩; have hk1 := HST.out.step hb1; obtain ⟨r0, r1, r2, r3, r4, r5, y0, y1, y2, y3, y4, y5⟩ := hk1.b0.box; obtain ⟨p0, p1, p2, p3, p4, p5, z0, z1, z2, z3, z4, z5⟩ := hk1.b1.box)
          | (go_at_call 41; refine (HD.out _).mono ?_; rintro e w2 ⟨rfl, rfl⟩))
        have HB := set6 (hk1.low.setCell (p := ⟨w.heap.size, 0, none⟩) (Nat.le_refl _) (.bool on)) (b := w.heap.size + 1) (by omega) (.bool m0) (.bool m1) (.bool m2) (.bool m3) (.bool m4) (.slice a ls.length cap)
        first
          | refine bodyPost_ret (v := .tuple #[.agg #[.bool m0, .bool on, .bool m2, .bool m3, .bool m4, .slice a ls.length cap], .int .i64 0]) (by simp [results, Try.results22, go_sem, p0, p1, p2, p3, p4, p5, r0, r1, r2, r3, r4, r5]; done) rfl ⟨m0, on, m2, m3, m4, _, rfl, rfl, ?_, ?_⟩
          | refine bodyPost_ret (v := .tuple #[.agg #[.bool m0, .bool m1, .bool on, .bool m3, .bool m4, .slice a ls.length cap], .int .i64 0]) (by simp [results, Try.results22, go_sem, p0, p1, p2, p3, p4, p5, r0, r1, r2, r3, r4, r5]; done) rfl ⟨m0, m1, on, m3, m4, _, rfl, rfl, ?_, ?_⟩
          | refine bodyPost_ret (v := .tuple #[.agg #[.bool m0, .bool m1, .bool m2, .bool on, .bool m4, .slice a ls.length cap], .int .i64 0]) (by simp [results, Try.results22, go_sem, p0, p1, p2, p3, p4, p5, r0, r1, r2, r3, r4, r5]; done) rfl ⟨m0, m1, m2, on, m4, _, rfl, rfl, ?_, ?_⟩
          | refine bodyPost_ret (v := .tuple #[.agg #[.bool m0, .bool m1, .bool m2, .bool m3, .bool on, .slice a ls.length cap], .int .i64 0]) (by simp [results, Try.results22, go_sem, p0, p1, p2, p3, p4, p5, r0, r1, r2, r3, r4, r5]; done) rfl ⟨m0, m1, m2, m3, on, _, rfl, rfl, ?_, ?_⟩
        · exact HLP.out _ (set6 (hk1.low.setCell (Nat.le_refl _) _) (by omega) _ _ _ _ _ _)
        · exact set6 (hk1.low.setCell (Nat.le_refl _) _) (by omega) _ _ _ _ _ _

set_option maxRecDepth 20000 in
set_option maxHeartbeats 800000 in
theorem driver_w (n : Int) (w : World) : Calls Try.prog 23 #[.int .i64 n] w fun e w' => e = .returned (.tuple #[.int .i64 (Iq.driver n).1, .bool (Iq.driver n).2]) ∧ w = w' := by
  have HD : Hid (∀ W, Calls Try.prog 35 #[.int .i64 n] W fun e w' => e = .returned (.bool (Iq.device n)) ∧ W = w') := fun W => device_w n W
  cases hp : Iq.device n with
  | false =>
    have hr : Iq.driver n = (0, false) := by
      unfold Iq.device at hp
      simp at hp
      unfold Iq.driver
      rw [if_neg (by omega), if_neg (by omega), if_neg (by omega), if_neg (by omega)]
    rw [hr]
    rw [hp] at HD
    clear hp hr
    go_enter Try.func23, Try.ntmps23
    go_wp2_with (go_at_call 35; refine (HD.out _).mono ?_; rintro e w2 ⟨rfl, rfl⟩)
    go_ret2
    exact ⟨rfl, rfl⟩
  | true =>
    have h4 := mask_cases n hp
    rw [hp] at HD
    clear hp
    have i1 : ∀ w, (Instr.index 86 (.agg #[.int .i64 0, .int .i64 7, .int .i64 8, .int .i64 9, .int .i64 10]) (.int .i64 1)).run Try.prog w = .ok (.int .i64 7) w := fun _ => by kernel_rfl
    have i2 : ∀ w, (Instr.index 86 (.agg #[.int .i64 0, .int .i64 7, .int .i64 8, .int .i64 9, .int .i64 10]) (.int .i64 2)).run Try.prog w = .ok (.int .i64 8) w := fun _ => by kernel_rfl
    have i3 : ∀ w, (Instr.index 86 (.agg #[.int .i64 0, .int .i64 7, .int .i64 8, .int .i64 9, .int .i64 10]) (.int .i64 3)).run Try.prog w = .ok (.int .i64 9) w := fun _ => by kernel_rfl
    have i4 : ∀ w, (Instr.index 86 (.agg #[.int .i64 0, .int .i64 7, .int .i64 8, .int .i64 9, .int .i64 10]) (.int .i64 4)).run Try.prog w = .ok (.int .i64 10) w := fun _ => by kernel_rfl
    rcases h4 with rfl | rfl | rfl | rfl
    all_goals
      go_enter Try.func23, Try.ntmps23
      go_wp2_with (go_at_call 35; refine (HD.out _).mono ?_; rintro e w2 ⟨rfl, rfl⟩)
      go_ret2
      exact ⟨rfl, rfl⟩

set_option maxHeartbeats 800000 in
theorem rdriver_w (n : Int) (w : World) : Calls Try.prog 24 #[.int .i64 n] w fun e w' => e = .returned (.tuple #[.int .i64 (Iq.driver n).1, .bool (Iq.driver n).2]) ∧ w = w' := by
  have h5 : n = 1 ∨ n = 2 ∨ n = 3 ∨ n = 4 ∨ (n ≠ 1 ∧ n ≠ 2 ∧ n ≠ 3 ∧ n ≠ 4) := by omega
  rcases h5 with rfl | rfl | rfl | rfl | ⟨h1, h2, h3, h4⟩
  · go_enter Try.func24, Try.ntmps24
    go_wp2
    go_ret2
    exact ⟨rfl, rfl⟩
  · go_enter Try.func24, Try.ntmps24
    go_wp2
    go_ret2
    exact ⟨rfl, rfl⟩
  · go_enter Try.func24, Try.ntmps24
    go_wp2
    go_ret2
    exact ⟨rfl, rfl⟩
  · go_enter Try.func24, Try.ntmps24
    go_wp2
    go_ret2
    exact ⟨rfl, rfl⟩
  · have hr : Iq.driver n = (0, false) := by
      unfold Iq.driver
      rw [if_neg h1, if_neg h2, if_neg h3, if_neg h4]
    rw [hr]
    have q1 : (n == 1) = false := by simp [h1]
    have q2 : (n == 2) = false := by simp [h2]
    have q3 : (n == 3) = false := by simp [h3]
    have q4 : (n == 4) = false := by simp [h4]
    clear h1 h2 h3 h4 hr
    go_enter Try.func24, Try.ntmps24
    go_wp2
    go_ret2
    exact ⟨rfl, rfl⟩
end Go.Proofs.Ytehniblcodkmaaa
