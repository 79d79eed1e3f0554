/-
  The walk of irq.Take.
-/
import Derived.Test.YtehniblcodkmaaaIk
namespace Go.Proofs.Ytehniblcodkmaaa
open Go.RowKit

theorem idx_list {α : Type} (f : α → Bool) (z : α) (l : List α) : Ix.idx (fun k => f (l.getD k z)) l.length = match l.findIdx? f with | some i => (i : Int) | none => -1 := by
  cases h : l.findIdx? f with
  | none =>
    apply Ix.idx_none
    intro j hj
    rw [Iq.getD_at _ hj]
    exact (List.findIdx?_eq_none_iff.1 h) _ (List.getElem_mem hj)
  | some i =>
    obtain ⟨hi, hp, hno⟩ := List.findIdx?_eq_some_iff_getElem.1 h
    apply Ix.idx_some hi
    · rw [Iq.getD_at _ hi]; exact hp
    · intro j hj
      rw [Iq.getD_at _ (by omega)]
      simpa using hno j hj

/-- The boxes of Take in every later world. -/
def TK (w : World) (T1 T2 : TypeId) (m0 m1 m2 m3 m4 : Bool) (u : Value) (W : World) : Prop :=
  Keeps w [(w.heap.size, T1, stC m0 m1 m2 m3 m4 u), (w.heap.size + 1, T1, stC false false false false false (.slice none 0 0)), (w.heap.size + 1 + 1, T2, [.int .i64 0, .int .i64 0, .int .i64 0, .slice none 0 0])] W

section
variable {w W W' : World} {T1 T2 : TypeId} {m0 m1 m2 m3 m4 : Bool} {u : Value}
theorem TK.start : TK w T1 T2 m0 m1 m2 m3 m4 u (((w.alloc (.cells #[.bool m0, .bool m1, .bool m2, .bool m3, .bool m4, u] T1 (0, 0))).alloc (.cells #[.bool false, .bool false, .bool false, .bool false, .bool false, .slice none 0 0] T1 (0, 0))).alloc (.cells #[.int .i64 0, .int .i64 0, .int .i64 0, .slice none 0 0] T2 (0, 0))) :=
  ((((Keeps.start w).add T1 (stC m0 m1 m2 m3 m4 u) rfl).add T1 (stC false false false false false (.slice none 0 0)) (n := w.heap.size + 1) (by simp)).add T2 [.int .i64 0, .int .i64 0, .int .i64 0, .slice none 0 0] (n := w.heap.size + 1 + 1) (by simp)).less (by simp)
theorem TK.step (h : TK w T1 T2 m0 m1 m2 m3 m4 u W) (hb : Below W.heap.size W W') : TK w T1 T2 m0 m1 m2 m3 m4 u W' := Keeps.step h hb
theorem TK.low (h : TK w T1 T2 m0 m1 m2 m3 m4 u W) : Below w.heap.size w W := h.1
theorem TK.b0 (h : TK w T1 T2 m0 m1 m2 m3 m4 u W) : Bk W w.heap.size T1 (stC m0 m1 m2 m3 m4 u) := h.2 _ (.head _)
theorem TK.b1 (h : TK w T1 T2 m0 m1 m2 m3 m4 u W) : Bk W (w.heap.size + 1) T1 (stC false false false false false (.slice none 0 0)) := h.2 _ (.tail _ (.head _))
theorem TK.b2 (h : TK w T1 T2 m0 m1 m2 m3 m4 u W) : Bk W (w.heap.size + 1 + 1) T2 [.int .i64 0, .int .i64 0, .int .i64 0, .slice none 0 0] := h.2 _ (.tail _ (.tail _ (.head _)))
theorem TK.mk3 (hb : Below w.heap.size w W') (b0 : Bk W' w.heap.size T1 (stC m0 m1 m2 m3 m4 u)) (b1 : Bk W' (w.heap.size + 1) T1 (stC false false false false false (.slice none 0 0))) (b2 : Bk W' (w.heap.size + 1 + 1) T2 [.int .i64 0, .int .i64 0, .int .i64 0, .slice none 0 0]) : TK w T1 T2 m0 m1 m2 m3 m4 u W' :=
  ⟨hb, fun e he => by
    rcases List.mem_cons.1 he with rfl | he
    · exact b0
    · rcases List.mem_cons.1 he with rfl | he
      · exact b1
      · rcases List.mem_cons.1 he with rfl | he
        · exact b2
        · cases he⟩
theorem TK.set6 (h : TK w T1 T2 m0 m1 m2 m3 m4 u W) (n0 n1 n2 n3 n4 : Bool) (v : Value) :
    TK w T1 T2 n0 n1 n2 n3 n4 v ((((((W.setCell ⟨w.heap.size, 0, none⟩ (.bool n0)).setCell ⟨w.heap.size, 1, none⟩ (.bool n1)).setCell ⟨w.heap.size, 2, none⟩ (.bool n2)).setCell ⟨w.heap.size, 3, none⟩ (.bool n3)).setCell ⟨w.heap.size, 4, none⟩ (.bool n4)).setCell ⟨w.heap.size, 5, none⟩ v) :=
  TK.mk3 (Go.Proofs.Ytehniblcodkmaaa.set6 h.low (Nat.le_refl _) _ _ _ _ _ _) ((((((h.b0.set 0 (.bool n0)).set 1 (.bool n1)).set 2 (.bool n2)).set 3 (.bool n3)).set 4 (.bool n4)).set 5 v) (h.b1.keep (set6_heap (by omega) _ _ _ _ _ _)) (h.b2.keep (set6_heap (by omega) _ _ _ _ _ _))
theorem TK.set5 (h : TK w T1 T2 m0 m1 m2 m3 m4 u W) (v : Value) : TK w T1 T2 m0 m1 m2 m3 m4 v (W.setCell ⟨w.heap.size, 5, none⟩ v) :=
  TK.mk3 (h.low.setCell (by simp) _) (h.b0.set 5 v) (h.b1.far (by simp) _) (h.b2.far (by simp; omega) _)
end

theorem drew_heap (w : World) (k : Nat) : w.drew.heap[k]? = w.heap[k]? := rfl

/-- A slice of bytes, and nothing that is read lies in a block below B. -/
def LvF (B : Nat) (w : World) (u : Value) (xs : List UInt8) : Prop := Sl eb w u xs ∧ ∀ b off n c, u = .slice (some ⟨b, off, none⟩) n c → n ≠ 0 → B ≤ b
theorem LvF.nil {B : Nat} {w : World} : LvF B w (.slice none 0 0) [] := ⟨Sl.nil _ _, fun b off n c h => by cases h⟩
theorem LvF.keep {B : Nat} {w w' : World} {u : Value} {xs : List UInt8} (h : LvF B w u xs) (hk : ∀ b, B ≤ b → b < w.heap.size → w'.heap[b]? = w.heap[b]?) : LvF B w' u xs := by
  obtain ⟨⟨a2, c2, rfl, q2, q3, q4, q5⟩, hf⟩ := h
  refine ⟨⟨a2, c2, rfl, q2, q3, q4, fun j hj => ?_⟩, hf⟩
  obtain ⟨b, off, e, hlt, hc⟩ := q5 j hj
  subst e
  have hb := hk b (hf b off _ _ rfl (by omega)) hlt
  refine ⟨b, off, rfl, ?_, by rw [World.cell?_of_block (a := ⟨b, off + j, none⟩) hb]; exact hc⟩
  rw [Array.getElem?_eq_getElem hlt] at hb
  exact (Array.getElem?_eq_some_iff.1 hb).1

/-- What Take returns. -/
def RetTk (w : World) (r : Iq.St × Iq.Ln × Bool) (e : Ending) (w' : World) : Prop :=
  ∃ n0 n1 n2 n3 n4 v' u', r.1.1 = [n0, n1, n2, n3, n4] ∧ e = .returned (.tuple #[.agg #[.bool n0, .bool n1, .bool n2, .bool n3, .bool n4, v'], .agg #[.int .i64 r.2.1.1, .int .i64 r.2.1.2.1, .int .i64 r.2.1.2.2.1, u'], .bool r.2.2]) ∧ LpF w.heap.size w' v' r.1.2 ∧ LvF w.heap.size w' u' r.2.1.2.2.2 ∧ Below w.heap.size w w'

theorem RetTk.zero {w w' : World} (hb : Below w.heap.size w w') : RetTk w (Iq.zst, Iq.zln, false) (.returned (.tuple #[.agg #[.bool false, .bool false, .bool false, .bool false, .bool false, .slice none 0 0], .agg #[.int .i64 0, .int .i64 0, .int .i64 0, .slice none 0 0], .bool false])) w' :=
  ⟨false, false, false, false, false, _, _, rfl, rfl, LpF.nil, LvF.nil, hb⟩

theorem set4 {w W : World} {b : Nat} (h : Below w.heap.size w W) (hb : w.heap.size ≤ b) (v0 v1 v2 v3 : Value) : Below w.heap.size w ((((W.setCell ⟨b, 0, none⟩ v0).setCell ⟨b, 1, none⟩ v1).setCell ⟨b, 2, none⟩ v2).setCell ⟨b, 3, none⟩ v3) :=
  (((h.setCell hb _).setCell hb _).setCell hb _).setCell hb _
theorem set4_heap {W : World} {b k : Nat} (hk : k ≠ b) (v0 v1 v2 v3 : Value) : ((((W.setCell ⟨b, 0, none⟩ v0).setCell ⟨b, 1, none⟩ v1).setCell ⟨b, 2, none⟩ v2).setCell ⟨b, 3, none⟩ v3).heap[k]? = W.heap[k]? := by
  rw [Below.heap_setCell _ _ _ _ hk, Below.heap_setCell _ _ _ _ hk, Below.heap_setCell _ _ _ _ hk, Below.heap_setCell _ _ _ _ hk]

set_option maxRecDepth 20000 in
set_option maxHeartbeats 3200000 in
theorem take_w {m0 m1 m2 m3 m4 : Bool} {u : Value} {ls : List Iq.Ln} {w : World} (h : Lp w u ls) :
    Calls Try.prog 15 #[.agg #[.bool m0, .bool m1, .bool m2, .bool m3, .bool m4, u]] w (RetTk w (Iq.take ([m0, m1, m2, m3, m4], ls))) := by
  have HLP : Hid (∀ W, Below w.heap.size w W → Lp W u ls) := fun W hW => h.below hW (Nat.le_refl _)
  have HV : Hid (∀ W, Below w.heap.size w W → Calls Try.prog 25 #[.agg #[.bool m0, .bool m1, .bool m2, .bool m3, .bool m4, u]] W fun e w' => e = .returned (.bool (Iq.valid ([m0, m1, m2, m3, m4], ls))) ∧ Below W.heap.size W w') := fun W hW => valid_w (HLP.out W hW)
  obtain ⟨es, ⟨a, cap, rfl, hc, hcm, hna, hrm⟩, hle, hre⟩ := h
  unfold maxLen at hcm
  have HST := Lib.hid (TK.start (w := w) (T1 := 30) (T2 := 38) (m0 := m0) (m1 := m1) (m2 := m2) (m3 := m3) (m4 := m4) (u := .slice a es.length cap))
  generalize hr : Iq.take ([m0, m1, m2, m3, m4], ls) = r
  unfold Iq.take at hr
  cases hv : Iq.valid ([m0, m1, m2, m3, m4], ls) with
  | false =>
    rw [hv] at HV hr
    simp only [if_pos] at hr
    subst hr
    clear hv HLP hrm hre
    have HLE := Lib.hid hle
    clear hle
    go_enter Try.func15, Try.ntmps15
    go_wp2_with (go_at_call 25; refine (HV.out _ HST.out.low).mono ?_; rintro e w1 ⟨rfl, hb1⟩; have hk1 := HST.out.step hb1; obtain ⟨p0, p1, p2, p3, p4, p5, z0, z1, z2, z3, z4, z5⟩ := hk1.b1.box; obtain ⟨q0, q1, q2, q3, y3⟩ := hk1.b2.box4; have y0 := hk1.b2.frozen 0; have y1 := hk1.b2.frozen 1; have y2 := hk1.b2.frozen 2)
    refine bodyPost_ret (v := .tuple #[.agg #[.bool false, .bool false, .bool false, .bool false, .bool false, .slice none 0 0], .agg #[.int .i64 0, .int .i64 0, .int .i64 0, .slice none 0 0], .bool false]) (by simp [results, Try.results15, go_sem, p0, p1, p2, p3, p4, p5, q0, q1, q2, q3]) rfl (RetTk.zero ?_)
    exact set4 (set6 hk1.low (by omega) _ _ _ _ _ _) (by omega) _ _ _ _
  | true =>
    have hd : ∀ y ∈ ls, y.2.2.2.length ≤ 1000000 := fun y hy => by
      obtain ⟨k, hk, rfl⟩ := List.getElem_of_mem hy
      have := (Iq.proper_bd hv k hk).2.2.2
      simp only at this
      omega
    have hml : ls.length ≤ 32 := (Iq.valid_iff.1 hv).2.1
    have hpb := fun k (hk : k < ls.length) => Iq.proper_bd hv k hk
    simp only at hpb
    rw [hv] at HV hr
    simp only [Bool.true_eq_false, if_false] at hr
    have eg := enters_of Try.func38 (by kernel_rfl) rfl
    have HX : Hid (∀ W, TK w 30 38 m0 m1 m2 m3 m4 (.slice a es.length cap) W → Calls Try.prog 37 #[.slice a es.length cap, .func (.func 38) #[] #[.pointer (some ⟨w.heap.size, 0, none⟩)]] W fun e w' => e = .returned (.int .i64 (Ix.idx (fun k => Iq.free [m0, m1, m2, m3, m4] (ls.getD k Iq.zln)) ls.length)) ∧ Below W.heap.size W w') := fun W hW => by
      refine (indexFunc_ln a cap es 38 _ (fun k => Iq.free [m0, m1, m2, m3, m4] (ls.getD k Iq.zln)) (fun _ X => Below W.heap.size W X) W (by omega) eg ?_ (Below.refl _ _) ?_).mono ?_
      · intro k X hb
        exact (hrm.below hW.low (Nat.le_refl _)).below hb (Nat.le_refl _)
      · intro k X hk hb d t n a' m c e
        have hk' : k < ls.length := by omega
        obtain ⟨e1, e2, e3, _⟩ := hre k hk hk'
        rw [e] at e1 e2 e3
        simp only at e1 e2 e3
        have hpk := hpb k hk'
        refine (free1_w w.heap.size _ m0 m1 m2 m3 m4 _ d t n _ X ((hW.step hb).b0) (by rw [e1]; exact ⟨hpk.1, hpk.2.1⟩) ls[k].2.2.2).mono fun e W' ⟨r1, r2⟩ => ⟨?_, hb.trans (r2.mono hb.size)⟩
        rw [r1, Iq.getD_at _ hk', e1, e2, e3]
      · rintro e w' ⟨r1, k, _, r2⟩
        exact ⟨by rw [r1, hle], r2⟩
    rw [idx_list] at HX
    have HLE := Lib.hid hle
    cases hfi : ls.findIdx? (Iq.free [m0, m1, m2, m3, m4]) with
    | none =>
      rw [hfi] at HX hr
      simp only at HX hr
      subst hr
      clear hv hd hml hpb hfi hle HLP hrm hre
      go_enter Try.func15, Try.ntmps15
      go_wp2_with (first
        | (go_at_call 25; refine (HV.out _ HST.out.low).mono ?_; rintro e w1 ⟨rfl, hb1⟩; have hk1 := HST.out.step hb1; have x5 := hk1.b0.box.p5)
        | (go_at_call 37; refine (HX.out _ hk1).mono ?_; rintro e w2 ⟨rfl, hb2⟩; have hk2 := hk1.step hb2; obtain ⟨p0, p1, p2, p3, p4, p5, z0, z1, z2, z3, z4, z5⟩ := hk2.b1.box; obtain ⟨q0, q1, q2, q3, y3⟩ := hk2.b2.box4; have y0 := hk2.b2.frozen 0; have y1 := hk2.b2.frozen 1; have y2 := hk2.b2.frozen 2))
      refine bodyPost_ret (v := .tuple #[.agg #[.bool false, .bool false, .bool false, .bool false, .bool false, .slice none 0 0], .agg #[.int .i64 0, .int .i64 0, .int .i64 0, .slice none 0 0], .bool false]) (by simp [results, Try.results15, go_sem, p0, p1, p2, p3, p4, p5, q0, q1, q2, q3]) rfl (RetTk.zero ?_)
      exact set4 (set6 hk2.low (by omega) _ _ _ _ _ _) (by omega) _ _ _ _
    | some i =>
      have hi : i < ls.length := (List.findIdx?_eq_some_iff_getElem.1 hfi).1
      rw [hfi] at HX hr
      simp only at HX hr
      subst hr
      have HCP : Hid (∀ W, Below w.heap.size w W → Calls Try.prog 36 #[.agg #[.bool m0, .bool m1, .bool m2, .bool m3, .bool m4, .slice a es.length cap]] W fun e w' => ∃ v, e = .returned (.agg #[.bool m0, .bool m1, .bool m2, .bool m3, .bool m4, v]) ∧ (∃ es, Lo w' W.heap.size 38 v es ls ∧ ∀ g, g < W.heap.size → ∀ e ∈ es, Far g e) ∧ Below W.heap.size W w') := fun W hW => copied_w (HLP.out W hW) (by omega) hd
      rw [Iq.getD_at _ hi]
      have hi32 : i < 32 := by omega
      clear hv hd hpb hfi hle HLP hrm hre
      go_enter Try.func15, Try.ntmps15
      go_upto_region 7 with (first
        | (go_at_call 25; refine (HV.out _ HST.out.low).mono ?_; rintro e w1 ⟨rfl, hb1⟩; have hk1 := HST.out.step hb1; have x5 := hk1.b0.box.p5)
        | (go_at_call 37; refine (HX.out _ hk1).mono ?_; rintro e w2 ⟨rfl, hb2⟩; have hk2 := hk1.step hb2; obtain ⟨x0, x1, x2, x3, x4, x52, -⟩ := hk2.b0.box)
        | (go_at_call 36; refine (HCP.out _ hk2.low).mono ?_; rintro e w4 ⟨v4, rfl, ⟨es4, ho4, hf4⟩, hb4⟩; obtain ⟨a4, c4, rfl, hc4, hcm4⟩ := lo_slice ho4; have hk4 := hk2.step hb4; obtain ⟨r0, r1, r2, r3, r4, r5, y0, y1, y2, y3, y4, y5⟩ := hk4.b0.box))
      have hlt0 := hk2.b0.lt
      have hlt1 := hk2.b1.lt
      have hlt2 := hk2.b2.lt
      have hk5 := hk4.set6 m0 m1 m2 m3 m4 (.slice a4 ls.length c4)
      have ho5 := ho4.other (w' := (((((w4.setCell ⟨w.heap.size, 0, none⟩ (.bool m0)).setCell ⟨w.heap.size, 1, none⟩ (.bool m1)).setCell ⟨w.heap.size, 2, none⟩ (.bool m2)).setCell ⟨w.heap.size, 3, none⟩ (.bool m3)).setCell ⟨w.heap.size, 4, none⟩ (.bool m4)).setCell ⟨w.heap.size, 5, none⟩ (.slice a4 ls.length c4)) (g0 := w.heap.size) (fun e => by have := (ho4.own.lt _ e).1; omega) (hf4 _ hlt0) (fun b hb => set6_heap hb _ _ _ _ _ _)
      generalize (((((w4.setCell ⟨w.heap.size, 0, none⟩ (.bool m0)).setCell ⟨w.heap.size, 1, none⟩ (.bool m1)).setCell ⟨w.heap.size, 2, none⟩ (.bool m2)).setCell ⟨w.heap.size, 3, none⟩ (.bool m3)).setCell ⟨w.heap.size, 4, none⟩ (.bool m4)).setCell ⟨w.heap.size, 5, none⟩ (.slice a4 ls.length c4) = W5 at *
      unfold maxLen at hcm4
      obtain ⟨g, ad, m, cc, rfl, hgb, hgl, -, h4, hv4, hfar, -, hmm⟩ := ho5.at i hi
      have hel := ho5.len
      have HFZ : Hid (∀ j, W5.frozen? ⟨g, j, none⟩ = false) := fun j => (hel ▸ ho5.own : W5.ownsRow _ _ 4 (.slice (some ⟨g, 0, none⟩) ls.length c4) ls.length _).frozenAt j
      have HCC : Hid (∀ j, j < es4.length * 4 → W5.cell? ⟨g, j, none⟩ = (es4.flatMap el)[j]?) := fun j hj => (hel ▸ ho5.own : W5.ownsRow _ _ 4 (.slice (some ⟨g, 0, none⟩) ls.length c4) ls.length _).cellAt j (by omega)
      have HFE : Hid (∀ e ∈ es4, Far g e ∧ Far w.heap.size e ∧ Far (w.heap.size + 1) e ∧ Far (w.heap.size + 1 + 1) e ∧ ∀ g', g' < w.heap.size → Far g' e) := fun e he => ⟨ho5.far g rfl e he, hf4 _ hlt0 e he, hf4 _ hlt1 e he, hf4 _ hlt2 e he, fun g' hg' => hf4 g' (by omega) e he⟩
      have HRD := Lib.hid ho5.rd
      obtain ⟨mm, hlen⟩ : ∃ mm, ls.length = i + mm + 1 := ⟨ls.length - i - 1, by omega⟩
      have hlow5 := hk5.low
      have hs50 := hk5.b0.lt
      have hs51 := hk5.b1.lt
      have hs52 := hk5.b2.lt
      obtain ⟨r0, r1, r2, r3, r4, r5, y0, y1, y2, y3, y4, y5⟩ := hk5.b0.box
      have HGB : Hid (w.heap.size + 1 + 1 < g) := by show _ < _; omega
      generalize hy : ls[i] = y at *
      have HYI := Lib.hid hy
      clear hy
      obtain ⟨d, t, x, ys⟩ := y
      obtain ⟨u9, hu9, hs9⟩ := hv4
      have hu9' : Value.slice ad m cc = u9 := by simpa using hu9
      subst hu9'
      clear hu9
      have HS9 := Lib.hid hs9
      obtain ⟨am, cm, hsm, -⟩ := id hs9
      injection hsm with q1 q2 q3
      simp only at q2
      subst q1 q2 q3
      simp only at h4 hs9 hfar hmm
      have HFM := Lib.hid (HFE.out _ hmm)
      clear hmm
      obtain ⟨W6, hW6⟩ : ∃ W6, W6 = W5.alloc (.cells #[.int .i64 d, .int .i64 t, .int .i64 x, .slice ad ys.length cc] 38 (0, 0)) := ⟨_, rfl⟩
      have hw6 : Below W5.heap.size W5 W6 := hW6 ▸ low_alloc _ _
      have hX6 : Bk W6 W5.heap.size 38 [.int .i64 d, .int .i64 t, .int .i64 x, .slice ad ys.length cc] := hW6 ▸ Bk.new W5 _ [_, _, _, _]
      have HD := delete_w g i mm c4 es4 W6 (by omega) (by omega) (by omega) (by omega) (Nat.lt_of_lt_of_le hgl hw6.size) (fun j hj => by rw [hw6.cell (p := ⟨g, j, none⟩) hgl]; exact HCC.out j hj) (fun j => by rw [hw6.frozen (p := ⟨g, j, none⟩) hgl]; exact HFZ.out j)
      rw [← hlen] at HD
      have HLN := Lib.hid hlen
      clear hlen
      have HD2 := Lib.hid HD
      have hk6 := hk5.step hw6
      have hne5 : w.heap.size ≠ g := by have := HGB.out; omega
      have HFN : Hid (∀ w7, Sm 4 el w7 (.slice (some ⟨g, 0, none⟩) (i + mm) c4) (es4.take i ++ es4.drop (i + 1)) → (∀ b, b ≠ g → w7.heap[b]? = W6.heap[b]?) → Below g W6 w7 → TK w 30 38 m0 m1 m2 m3 m4 (.slice (some ⟨g, 0, none⟩) ls.length c4) w7 ∧ Bk w7 W5.heap.size 38 [.int .i64 d, .int .i64 t, .int .i64 x, .slice ad ys.length cc] ∧
          ∀ W9, (∀ b, b ≠ w.heap.size → b ≠ w.heap.size + 1 → b ≠ w.heap.size + 1 + 1 → W9.heap[b]? = w7.heap[b]?) → LpF w.heap.size W9 (.slice (some ⟨g, 0, none⟩) (i + mm) c4) (ls.eraseIdx i) ∧ LvF w.heap.size W9 (.slice ad ys.length cc) ys) := fun w7 hS hkp hb7 => by
        have hg := HGB.out
        have hln := HLN.out
        have hrd := HRD.out
        have hk7 := TK.mk3 (hk6.low.trans (hb7.mono (by omega))) (hk6.b0.keep (hkp _ (by omega))) (hk6.b1.keep (hkp _ (by omega))) (hk6.b2.keep (hkp _ (by omega)))
        refine ⟨hk7, hX6.keep (hkp _ (by omega)), fun W9 hk9 => ?_⟩
        have hall : ∀ b, b < W5.heap.size → b ≠ g → b ≠ w.heap.size → b ≠ w.heap.size + 1 → b ≠ w.heap.size + 1 + 1 → W9.heap[b]? = W5.heap[b]? := fun b h0 h1 h2 h3 h4 => by
          rw [hk9 b h2 h3 h4, hkp b h1, hw6.block b h0]
        have hsl : ∀ (a : Option Addr) (m c : Nat) (xs : List UInt8), Sl eb W5 (.slice a m c) xs → (∀ b off, a = some ⟨b, off, none⟩ → m ≠ 0 → b ≠ g ∧ b ≠ w.heap.size ∧ b ≠ w.heap.size + 1 ∧ b ≠ w.heap.size + 1 + 1) → Sl eb W9 (.slice a m c) xs := fun a m c xs hx hf => by
          obtain ⟨a2, c2, q1, q2, q3, q4, q5⟩ := hx
          injection q1 with r1 r2 r3
          subst r1 r2 r3
          refine ⟨a, c, rfl, q2, q3, q4, fun j hj => ?_⟩
          obtain ⟨b, off, ha, hlt, hc⟩ := q5 j hj
          obtain ⟨g1, g2, g3, g4⟩ := hf b off ha (by omega)
          have hb := hall b hlt g1 g2 g3 g4
          refine ⟨b, off, ha, ?_, by rw [World.cell?_of_block (a := ⟨b, off + j, none⟩) hb]; exact hc⟩
          rw [Array.getElem?_eq_getElem hlt] at hb
          exact (Array.getElem?_eq_some_iff.1 hb).1
        have hln1 : ∀ e ∈ es4, ∀ l, LnR W5 e l → LnR W9 e l := fun e he l hl =>
          ⟨hl.1, hl.2.1, hl.2.2.1, hsl _ _ _ _ hl.2.2.2 fun b off ha hm => ⟨(HFE.out e he).1 b off ha hm, (HFE.out e he).2.1 b off ha hm, (HFE.out e he).2.2.1 b off ha hm, (HFE.out e he).2.2.2.1 b off ha hm⟩⟩
        have hbg := hk9 g (by omega) (by omega) (by omega)
        refine ⟨⟨es4.take i ++ es4.drop (i + 1), ?_, ?_, fun b off n c hv _ => by injection hv with hv; simp at hv; omega, fun e he g' hg' => ?_⟩, hsl _ _ _ _ HS9.out fun b off ha hm => ⟨HFM.out.1 b off ha hm, HFM.out.2.1 b off ha hm, HFM.out.2.2.1 b off ha hm, HFM.out.2.2.2.1 b off ha hm⟩, fun b off n c hv hn => ?_⟩
        · obtain ⟨a8, c8, t1, t2, t3, t4, t5⟩ := hS
          injection t1 with t1 t1' t1''
          subst t1 t1''
          refine ⟨_, c4, by rw [← t1'], t2, t3, t4, fun j hj => ?_⟩
          obtain ⟨b, off, ha, hlt, hc⟩ := t5 j hj
          simp only [Option.some.injEq, Addr.mk.injEq, and_true] at ha
          obtain ⟨rfl, rfl⟩ := ha
          refine ⟨g, 0, rfl, ?_, fun q hq => by rw [World.cell?_of_block (a := ⟨g, 0 + j * 4 + q, none⟩) hbg]; exact hc q hq⟩
          rw [Array.getElem?_eq_getElem hlt] at hbg
          exact (Array.getElem?_eq_some_iff.1 hbg).1
        · rw [List.eraseIdx_eq_take_drop_succ]
          refine ⟨by simp [hrd.1], fun j h1 h2 => ?_⟩
          by_cases hji : j < i
          · rw [List.getElem_append_left (by simp; omega), List.getElem_append_left (by simp; omega), List.getElem_take, List.getElem_take]
            exact hln1 _ (List.getElem_mem _) _ (hrd.2 j (by omega) (by omega))
          · obtain ⟨q, rfl⟩ : ∃ q, j = i + q := ⟨j - i, by omega⟩
            have hq : i + 1 + q < ls.length := by simp at h2; omega
            have e1 : (es4.take i ++ es4.drop (i + 1))[i + q]'h1 = es4[i + 1 + q]'(by omega) := by
              rw [List.getElem_append_right (by simp; omega)]; simp; congr 1; omega
            have e2 : (ls.take i ++ ls.drop (i + 1))[i + q]'h2 = ls[i + 1 + q] := by
              rw [List.getElem_append_right (by simp; omega)]; simp; congr 1; omega
            rw [e1, e2]
            exact hln1 _ (List.getElem_mem _) _ (hrd.2 _ (by omega) hq)
        · refine (HFE.out e ?_).2.2.2.2 g' hg'
          rcases List.mem_append.1 he with he | he
          · exact List.mem_of_mem_take he
          · exact List.mem_of_mem_drop he
        · injection hv with hv hv2
          rcases Nat.lt_or_ge b w.heap.size with hb | hb
          · exact absurd rfl (HFM.out.2.2.2.2 b hb b off hv (by show ys.length ≠ 0; omega))
          · exact hb
      clear HD hw6 hX6 hk6 ho5 hfar hs9 hf4 ho4 hk4 hk2 hk1 hb1 hb2 hb4 x0 x1 x2 x3 x4 x52 x5 HCC HFZ HRD HV HX HCP HST hk5
      subst hW6
      obtain ⟨e0, e1, e2, e3⟩ := h4
      have f1 : (0 : Int) ≤ (i : Int) := by omega
      have f2 : (i : Int) < (ls.length : Int) := by omega
      go_upto_region 9 with (go_at_call 39; (with_reducible refine HD2.out.mono ?_); rintro e w7 ⟨rfl, hS7, hkp7, hb7⟩; obtain ⟨hk7, hX7, hfin⟩ := HFN.out w7 hS7 hkp7 hb7; obtain ⟨-, -, -, -, -, p57, -, -, -, -, -, z57⟩ := hk7.b0.box)
      have hk8 := hk7.set5 (.slice (some ⟨g, 0, none⟩) (i + mm) c4)
      have hX8 := hX7.far (p := ⟨w.heap.size, 5, none⟩) (by simp; omega) (.slice (some ⟨g, 0, none⟩) (i + mm) c4)
      have HFIN : Hid (∀ W9, (∀ b, b ≠ w.heap.size + 1 → b ≠ w.heap.size + 1 + 1 → W9.heap[b]? = (w7.setCell ⟨w.heap.size, 5, none⟩ (.slice (some ⟨g, 0, none⟩) (i + mm) c4)).heap[b]?) → LpF w.heap.size W9 (.slice (some ⟨g, 0, none⟩) (i + mm) c4) (ls.eraseIdx i) ∧ LvF w.heap.size W9 (.slice ad ys.length cc) ys) := fun W9 hk9 => hfin W9 fun b h0 h1 h2 => by
        rw [hk9 b h1 h2]
        exact Below.heap_setCell _ _ _ _ h0
      clear hfin hS7 hkp7 hb7 hk7 hX7 p57 z57 HFN HD2 e0 e1 e2 e3 r0 r1 r2 r3 r4 r5 y0 y1 y2 y3 y4 y5
      generalize w7.setCell ⟨w.heap.size, 5, none⟩ (.slice (some ⟨g, 0, none⟩) (i + mm) c4) = W8 at *
      have hlow := hk8.low
      obtain ⟨r0, r1, r2, r3, r4, r5, -⟩ := hk8.b0.box
      obtain ⟨e0, e1, e2, e3, -⟩ := hX8.box4
      obtain ⟨p0, p1, p2, p3, p4, p5, z0, z1, z2, z3, z4, z5⟩ := hk8.b1.box
      obtain ⟨q0, q1, q2, q3, y3⟩ := hk8.b2.box4
      have y0 := hk8.b2.frozen 0
      have y1 := hk8.b2.frozen 1
      have y2 := hk8.b2.frozen 2
      have n1 : w.heap.size + 1 ≠ W5.heap.size := by omega
      have n2 : w.heap.size + 1 + 1 ≠ W5.heap.size := by omega
      have n3 : w.heap.size + 1 + 1 ≠ w.heap.size := by omega
      clear hk8 hX8
      go_region_held3 (fun w' => w'.cell? ⟨w.heap.size, 0, none⟩ = some (.bool m0) ∧ w'.cell? ⟨w.heap.size, 1, none⟩ = some (.bool m1) ∧ w'.cell? ⟨w.heap.size, 2, none⟩ = some (.bool m2) ∧ w'.cell? ⟨w.heap.size, 3, none⟩ = some (.bool m3) ∧ w'.cell? ⟨w.heap.size, 4, none⟩ = some (.bool m4) ∧ w'.cell? ⟨w.heap.size, 5, none⟩ = some (.slice (some ⟨g, 0, none⟩) (i + mm) c4) ∧ w'.cell? ⟨W5.heap.size, 0, none⟩ = some (.int .i64 d) ∧ w'.cell? ⟨W5.heap.size, 1, none⟩ = some (.int .i64 t) ∧ w'.cell? ⟨W5.heap.size, 2, none⟩ = some (.int .i64 x) ∧ w'.cell? ⟨W5.heap.size, 3, none⟩ = some (.slice ad ys.length cc)) (go_keep) (fail)
      all_goals
        go_wp2
        refine bodyPost_ret (v := .tuple #[.agg #[.bool m0, .bool m1, .bool m2, .bool m3, .bool m4, .slice (some ⟨g, 0, none⟩) (i + mm) c4], .agg #[.int .i64 d, .int .i64 t, .int .i64 x, .slice ad ys.length cc], .bool true]) (by simp [results, Try.results15, go_sem, p0, p1, p2, p3, p4, p5, q0, q1, q2, q3]) rfl ?_
        rw [HYI.out]
        have hfin := HFIN.out (((((((((((W8.setCell ⟨w.heap.size + 1, 0, none⟩ (.bool m0)).setCell ⟨w.heap.size + 1, 1, none⟩ (.bool m1)).setCell ⟨w.heap.size + 1, 2, none⟩ (.bool m2)).setCell ⟨w.heap.size + 1, 3, none⟩ (.bool m3)).setCell ⟨w.heap.size + 1, 4, none⟩ (.bool m4)).setCell ⟨w.heap.size + 1, 5, none⟩ (.slice (some ⟨g, 0, none⟩) (i + mm) c4)).setCell ⟨w.heap.size + 1 + 1, 0, none⟩ (.int .i64 d)).setCell ⟨w.heap.size + 1 + 1, 1, none⟩ (.int .i64 t)).setCell ⟨w.heap.size + 1 + 1, 2, none⟩ (.int .i64 x)).setCell ⟨w.heap.size + 1 + 1, 3, none⟩ (.slice ad ys.length cc)).drew) fun b h1 h2 => by
          rw [drew_heap, set4_heap h2, set6_heap h1]
        exact ⟨m0, m1, m2, m3, m4, _, _, rfl, rfl, hfin.1, hfin.2, (set4 (set6 hlow (by omega) _ _ _ _ _ _) (by omega) _ _ _ _).drew⟩
end Go.Proofs.Ytehniblcodkmaaa
