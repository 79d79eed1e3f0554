/-
  The walk of irq.Raise.
-/
import Derived.Test.YtehniblcodkmaaaIg
import Derived.Deep.RegionLaw
namespace Go.Proofs.Ytehniblcodkmaaa
open Go.RowKit

/-- The boxes of Raise in every later world. -/
def RK (w : World) (T1 T2 : TypeId) (m0 m1 m2 m3 m4 : Bool) (u : Value) (d t n : Int) (ux : Value) (W : World) : Prop :=
  Keeps w [(w.heap.size, T1, stC m0 m1 m2 m3 m4 u), (w.heap.size + 1, T2, [.int .i64 d, .int .i64 t, .int .i64 n, ux]), (w.heap.size + 1 + 1, T1, stC false false false false false (.slice none 0 0))] W

section
variable {w W W' : World} {T1 T2 : TypeId} {m0 m1 m2 m3 m4 : Bool} {u : Value} {d t n : Int} {ux : Value}
theorem RK.start : RK w T1 T2 m0 m1 m2 m3 m4 u d t n ux (((w.alloc (.cells #[.bool m0, .bool m1, .bool m2, .bool m3, .bool m4, u] T1 (0, 0))).alloc (.cells #[.int .i64 d, .int .i64 t, .int .i64 n, ux] T2 (0, 0))).alloc (.cells #[.bool false, .bool false, .bool false, .bool false, .bool false, .slice none 0 0] T1 (0, 0))) :=
  ((((Keeps.start w).add T1 (stC m0 m1 m2 m3 m4 u) rfl).add T2 [.int .i64 d, .int .i64 t, .int .i64 n, ux] (n := w.heap.size + 1) (by simp)).add T1 (stC false false false false false (.slice none 0 0)) (n := w.heap.size + 1 + 1) (by simp)).less (by simp)
theorem RK.step (h : RK w T1 T2 m0 m1 m2 m3 m4 u d t n ux W) (hb : Below W.heap.size W W') : RK w T1 T2 m0 m1 m2 m3 m4 u d t n ux W' := Keeps.step h hb
theorem RK.low (h : RK w T1 T2 m0 m1 m2 m3 m4 u d t n ux W) : Below w.heap.size w W := h.1
theorem RK.b0 (h : RK w T1 T2 m0 m1 m2 m3 m4 u d t n ux W) : Bk W w.heap.size T1 (stC m0 m1 m2 m3 m4 u) := h.2 _ (.head _)
theorem RK.b1 (h : RK w T1 T2 m0 m1 m2 m3 m4 u d t n ux W) : Bk W (w.heap.size + 1) T2 [.int .i64 d, .int .i64 t, .int .i64 n, ux] := h.2 _ (.tail _ (.head _))
theorem RK.b2 (h : RK w T1 T2 m0 m1 m2 m3 m4 u d t n ux W) : Bk W (w.heap.size + 1 + 1) T1 (stC false false false false false (.slice none 0 0)) := h.2 _ (.tail _ (.tail _ (.head _)))
end

/-- The cells of a state's box, and their marks. -/
structure Box (W : World) (b : Nat) (m0 m1 m2 m3 m4 : Bool) (u : Value) : Prop where
  p0 : W.cell? ⟨b, 0, none⟩ = some (.bool m0)
  p1 : W.cell? ⟨b, 1, none⟩ = some (.bool m1)
  p2 : W.cell? ⟨b, 2, none⟩ = some (.bool m2)
  p3 : W.cell? ⟨b, 3, none⟩ = some (.bool m3)
  p4 : W.cell? ⟨b, 4, none⟩ = some (.bool m4)
  p5 : W.cell? ⟨b, 5, none⟩ = some u
  z0 : W.frozen? ⟨b, 0, none⟩ = false
  z1 : W.frozen? ⟨b, 1, none⟩ = false
  z2 : W.frozen? ⟨b, 2, none⟩ = false
  z3 : W.frozen? ⟨b, 3, none⟩ = false
  z4 : W.frozen? ⟨b, 4, none⟩ = false
  z5 : W.frozen? ⟨b, 5, none⟩ = false
theorem Bk.box {W : World} {b : Nat} {T : TypeId} {m0 m1 m2 m3 m4 : Bool} {u : Value} (h : Bk W b T (stC m0 m1 m2 m3 m4 u)) : Box W b m0 m1 m2 m3 m4 u :=
  ⟨h.cell 0, h.cell 1, h.cell 2, h.cell 3, h.cell 4, h.cell 5, h.frozen 0, h.frozen 1, h.frozen 2, h.frozen 3, h.frozen 4, h.frozen 5⟩
structure Box4 (W : World) (b : Nat) (d t n : Int) (u : Value) : Prop where
  p0 : W.cell? ⟨b, 0, none⟩ = some (.int .i64 d)
  p1 : W.cell? ⟨b, 1, none⟩ = some (.int .i64 t)
  p2 : W.cell? ⟨b, 2, none⟩ = some (.int .i64 n)
  p3 : W.cell? ⟨b, 3, none⟩ = some u
  z3 : W.frozen? ⟨b, 3, none⟩ = false
theorem Bk.box4 {W : World} {b : Nat} {T : TypeId} {d t n : Int} {u : Value} (h : Bk W b T [.int .i64 d, .int .i64 t, .int .i64 n, u]) : Box4 W b d t n u :=
  ⟨h.cell 0, h.cell 1, h.cell 2, h.cell 3, h.frozen 3⟩

/-- What Raise and Mask return. -/
def RetSt (w : World) (r : Iq.St × Int) (e : Ending) (w' : World) : Prop :=
  ∃ n0 n1 n2 n3 n4 v', r.1.1 = [n0, n1, n2, n3, n4] ∧ e = .returned (.tuple #[.agg #[.bool n0, .bool n1, .bool n2, .bool n3, .bool n4, v'], .int .i64 r.2]) ∧ Lp w' v' r.1.2 ∧ Below w.heap.size w w'

theorem RetSt.zero {w w' : World} {c : Int} (hb : Below w.heap.size w w') : RetSt w (Iq.zst, c) (.returned (.tuple #[.agg #[.bool false, .bool false, .bool false, .bool false, .bool false, .slice none 0 0], .int .i64 c])) w' :=
  ⟨false, false, false, false, false, _, rfl, rfl, Lp.nil, hb⟩

/-- What Raise and Mask of irq return: the slice is new. -/
def RetSF (w : World) (r : Iq.St × Int) (e : Ending) (w' : World) : Prop :=
  ∃ n0 n1 n2 n3 n4 v', r.1.1 = [n0, n1, n2, n3, n4] ∧ e = .returned (.tuple #[.agg #[.bool n0, .bool n1, .bool n2, .bool n3, .bool n4, v'], .int .i64 r.2]) ∧ LpF w.heap.size w' v' r.1.2 ∧ Below w.heap.size w w'

theorem RetSF.zero {w w' : World} {c : Int} (hb : Below w.heap.size w w') : RetSF w (Iq.zst, c) (.returned (.tuple #[.agg #[.bool false, .bool false, .bool false, .bool false, .bool false, .slice none 0 0], .int .i64 c])) w' :=
  ⟨false, false, false, false, false, _, rfl, rfl, LpF.nil, hb⟩

theorem set6 {w W : World} {b : Nat} (h : Below w.heap.size w W) (hb : w.heap.size ≤ b) (v0 v1 v2 v3 v4 v5 : Value) : Below w.heap.size w ((((((W.setCell ⟨b, 0, none⟩ v0).setCell ⟨b, 1, none⟩ v1).setCell ⟨b, 2, none⟩ v2).setCell ⟨b, 3, none⟩ v3).setCell ⟨b, 4, none⟩ v4).setCell ⟨b, 5, none⟩ v5) :=
  (((((h.setCell hb _).setCell hb _).setCell hb _).setCell hb _).setCell hb _).setCell hb _
theorem set6_heap {W : World} {b k : Nat} (hk : k ≠ b) (v0 v1 v2 v3 v4 v5 : Value) : ((((((W.setCell ⟨b, 0, none⟩ v0).setCell ⟨b, 1, none⟩ v1).setCell ⟨b, 2, none⟩ v2).setCell ⟨b, 3, none⟩ v3).setCell ⟨b, 4, none⟩ v4).setCell ⟨b, 5, none⟩ v5).heap[k]? = W.heap[k]? := by
  rw [Below.heap_setCell _ _ _ _ hk, Below.heap_setCell _ _ _ _ hk, Below.heap_setCell _ _ _ _ hk, Below.heap_setCell _ _ _ _ hk, Below.heap_setCell _ _ _ _ hk, Below.heap_setCell _ _ _ _ hk]

theorem RK.set6 {w W : World} {T1 T2 : TypeId} {m0 m1 m2 m3 m4 : Bool} {u : Value} {d t n : Int} {ux : Value} (h : RK w T1 T2 m0 m1 m2 m3 m4 u d t n ux W) (n0 n1 n2 n3 n4 : Bool) (v : Value) :
    RK w T1 T2 n0 n1 n2 n3 n4 v d t n ux ((((((W.setCell ⟨w.heap.size, 0, none⟩ (.bool n0)).setCell ⟨w.heap.size, 1, none⟩ (.bool n1)).setCell ⟨w.heap.size, 2, none⟩ (.bool n2)).setCell ⟨w.heap.size, 3, none⟩ (.bool n3)).setCell ⟨w.heap.size, 4, none⟩ (.bool n4)).setCell ⟨w.heap.size, 5, none⟩ v) :=
  ⟨Go.Proofs.Ytehniblcodkmaaa.set6 h.low (Nat.le_refl _) _ _ _ _ _ _, fun e he => by
    rcases List.mem_cons.1 he with rfl | he
    · exact (((((h.b0.set 0 (.bool n0)).set 1 (.bool n1)).set 2 (.bool n2)).set 3 (.bool n3)).set 4 (.bool n4)).set 5 v
    · rcases List.mem_cons.1 he with rfl | he
      · exact h.b1.keep (set6_heap (by simp) _ _ _ _ _ _)
      · rcases List.mem_cons.1 he with rfl | he
        · exact h.b2.keep (set6_heap (by simp; omega) _ _ _ _ _ _)
        · cases he⟩

theorem RK.keep {w W W' : World} {T1 T2 : TypeId} {m0 m1 m2 m3 m4 : Bool} {u : Value} {d t n : Int} {ux : Value} (h : RK w T1 T2 m0 m1 m2 m3 m4 u d t n ux W) (hb : Below w.heap.size w W') (hk : ∀ g, w.heap.size ≤ g → g ≤ w.heap.size + 1 + 1 → W'.heap[g]? = W.heap[g]?) : RK w T1 T2 m0 m1 m2 m3 m4 u d t n ux W' :=
  ⟨hb, fun e he => by
    rcases List.mem_cons.1 he with rfl | he
    · exact h.b0.keep (hk w.heap.size (by omega) (by omega))
    · rcases List.mem_cons.1 he with rfl | he
      · exact h.b1.keep (hk (w.heap.size + 1) (by omega) (by omega))
      · rcases List.mem_cons.1 he with rfl | he
        · exact h.b2.keep (hk (w.heap.size + 1 + 1) (by omega) (by omega))
        · cases he⟩

theorem RK.set5 {w W : World} {T1 T2 : TypeId} {m0 m1 m2 m3 m4 : Bool} {u : Value} {d t n : Int} {ux : Value} (h : RK w T1 T2 m0 m1 m2 m3 m4 u d t n ux W) (v : Value) :
    RK w T1 T2 m0 m1 m2 m3 m4 v d t n ux (W.setCell ⟨w.heap.size, 5, none⟩ v) :=
  ⟨h.low.setCell (by simp) _, fun e he => by
    rcases List.mem_cons.1 he with rfl | he
    · exact h.b0.set 5 v
    · rcases List.mem_cons.1 he with rfl | he
      · exact h.b1.far (by simp) _
      · rcases List.mem_cons.1 he with rfl | he
        · exact h.b2.far (by simp; omega) _
        · cases he⟩

set_option maxRecDepth 20000 in
set_option maxHeartbeats 3200000 in
theorem raise_w {m0 m1 m2 m3 m4 : Bool} {u vx : Value} {ls : List Iq.Ln} {x : Iq.Ln} {w : World} (h : Lp w u ls) (hx : Lv w vx x) :
    Calls Try.prog 20 #[.agg #[.bool m0, .bool m1, .bool m2, .bool m3, .bool m4, u], vx] w (RetSF w (Iq.raise ([m0, m1, m2, m3, m4], ls) x)) := by
  obtain ⟨ux, rfl, hxs⟩ := hx
  obtain ⟨d, t, n, xs⟩ := x
  simp only at hxs ⊢
  have HLX : Hid (∀ W, Below w.heap.size w W → Lv W (.agg #[.int .i64 d, .int .i64 t, .int .i64 n, ux]) (d, t, n, xs)) := fun W hW => ⟨ux, rfl, hxs.below hW (Nat.le_refl _)⟩
  have HLP : Hid (∀ W, Below w.heap.size w W → Lp W u ls) := fun W hW => h.below hW (Nat.le_refl _)
  have HV : Hid (∀ W, Below w.heap.size w W → Calls Try.prog 25 #[.agg #[.bool m0, .bool m1, .bool m2, .bool m3, .bool m4, u]] W fun e w' => e = .returned (.bool (Iq.valid ([m0, m1, m2, m3, m4], ls))) ∧ Below W.heap.size W w') := fun W hW => valid_w (HLP.out W hW)
  have HP : Hid (∀ W, Below w.heap.size w W → Calls Try.prog 27 #[.agg #[.int .i64 d, .int .i64 t, .int .i64 n, ux]] W fun e w' => e = .returned (.bool (Iq.proper (d, t, n, xs))) ∧ Below W.heap.size W w') := fun W hW => proper_w (HLX.out W hW)
  have HR : Hid (∀ W, Below w.heap.size w W → Calls Try.prog 42 #[u, .agg #[.int .i64 d, .int .i64 t, .int .i64 n, ux]] W fun e w' => e = .returned (.bool (Iq.pend ls (d, t, n, xs))) ∧ Below W.heap.size W w') := fun W hW => pending_w (HLP.out W hW) (HLX.out W hW)
  obtain ⟨a, cap, rfl, hc, hcm, -⟩ := h.open
  obtain ⟨a2, c2, rfl, hc2, hcm2, -⟩ := id hxs
  clear h hxs
  unfold maxLen at hcm
  have HST := Lib.hid (RK.start (w := w) (T1 := 30) (T2 := 38) (m0 := m0) (m1 := m1) (m2 := m2) (m3 := m3) (m4 := m4) (u := .slice a ls.length cap) (d := d) (t := t) (n := n) (ux := .slice a2 xs.length c2))
  generalize hr : Iq.raise ([m0, m1, m2, m3, m4], ls) (d, t, n, xs) = r
  unfold Iq.raise at hr
  cases hv : Iq.valid ([m0, m1, m2, m3, m4], ls) with
  | false =>
    rw [hv] at HV hr
    simp only [if_pos] at hr
    subst hr
    clear hv HP HR HLX HLP
    go_enter Try.func20, Try.ntmps20
    go_wp2_with (go_at_call 25; refine (HV.out _ HST.out.low).mono ?_; rintro e w1 ⟨rfl, hb1⟩; have hk1 := HST.out.step hb1; obtain ⟨p0, p1, p2, p3, p4, p5, z0, z1, z2, z3, z4, z5⟩ := hk1.b2.box)
    refine bodyPost_ret (v := .tuple #[.agg #[.bool false, .bool false, .bool false, .bool false, .bool false, .slice none 0 0], .int .i64 1]) (by simp [results, Try.results20, go_sem, p0, p1, p2, p3, p4, p5]) rfl (RetSF.zero ?_)
    exact set6 hk1.low (by omega) _ _ _ _ _ _
  | true =>
    have hd : ∀ y ∈ ls, y.2.2.2.length ≤ 1000000 := fun y hy => by
      obtain ⟨k, hk, rfl⟩ := List.getElem_of_mem hy
      have := (Iq.proper_bd hv k hk).2.2.2
      simp only at this
      omega
    have hml : ls.length ≤ 32 := (Iq.valid_iff.1 hv).2.1
    rw [hv] at HV hr
    simp only [Bool.true_eq_false, if_false] at hr
    cases hp : Iq.proper (d, t, n, xs) with
    | false =>
      rw [hp] at HP hr
      simp only [if_pos] at hr
      subst hr
      clear hv HR HLX HLP hp hd hml
      go_enter Try.func20, Try.ntmps20
      go_wp2_with (first
        | (go_at_call 25; refine (HV.out _ HST.out.low).mono ?_; rintro e w1 ⟨rfl, hb1⟩; have hk1 := HST.out.step hb1; have q1 := hk1.b1.box4; obtain ⟨x0, x1, x2, x3, -⟩ := q1)
        | (go_at_call 27; refine (HP.out _ hk1.low).mono ?_; rintro e w2 ⟨rfl, hb2⟩; have hk2 := hk1.step hb2; obtain ⟨p0, p1, p2, p3, p4, p5, z0, z1, z2, z3, z4, z5⟩ := hk2.b2.box))
      refine bodyPost_ret (v := .tuple #[.agg #[.bool false, .bool false, .bool false, .bool false, .bool false, .slice none 0 0], .int .i64 2]) (by simp [results, Try.results20, go_sem, p0, p1, p2, p3, p4, p5]) rfl (RetSF.zero ?_)
      exact set6 hk2.low (by omega) _ _ _ _ _ _
    | true =>
      have hdx : xs.length ≤ 1000000 := by have := (Iq.proper_iff.1 hp).2.2.2; simp only at this; omega
      rw [hp] at HP hr
      simp only [Bool.true_eq_false, if_false] at hr
      cases hpd : Iq.pend ls (d, t, n, xs) with
      | true =>
        rw [hpd] at HR hr
        simp only [if_pos] at hr
        subst hr
        clear hv HLX HLP hp hd hml hdx hpd
        go_enter Try.func20, Try.ntmps20
        go_wp2_with (first
          | (go_at_call 25; refine (HV.out _ HST.out.low).mono ?_; rintro e w1 ⟨rfl, hb1⟩; have hk1 := HST.out.step hb1; have q1 := hk1.b1.box4; obtain ⟨x0, x1, x2, x3, -⟩ := q1)
          | (go_at_call 27; refine (HP.out _ hk1.low).mono ?_; rintro e w2 ⟨rfl, hb2⟩; have hk2 := hk1.step hb2; obtain ⟨x02, x12, x22, x32, -⟩ := hk2.b1.box4; have y52 := hk2.b0.box.p5)
          | (go_at_call 42; refine (HR.out _ hk2.low).mono ?_; rintro e w3 ⟨rfl, hb3⟩; have hk3 := hk2.step hb3; obtain ⟨p0, p1, p2, p3, p4, p5, z0, z1, z2, z3, z4, z5⟩ := hk3.b2.box))
        refine bodyPost_ret (v := .tuple #[.agg #[.bool false, .bool false, .bool false, .bool false, .bool false, .slice none 0 0], .int .i64 19]) (by simp [results, Try.results20, go_sem, p0, p1, p2, p3, p4, p5]) rfl (RetSF.zero ?_)
        exact set6 hk3.low (by omega) _ _ _ _ _ _
      | false =>
        rw [hpd] at HR hr
        simp only [Bool.false_eq_true, if_false] at hr
        by_cases h32 : ls.length = 32
        · rw [if_pos h32] at hr
          subst hr
          have f1 : ((ls.length : Int) == 32) = true := by rw [beq_iff_eq]; omega
          have H32 := Lib.hid h32
          clear hv HLX HLP hp hd hml hdx hpd h32
          go_enter Try.func20, Try.ntmps20
          go_wp2_with (first
            | (go_at_call 25; refine (HV.out _ HST.out.low).mono ?_; rintro e w1 ⟨rfl, hb1⟩; have hk1 := HST.out.step hb1; have q1 := hk1.b1.box4; obtain ⟨x0, x1, x2, x3, -⟩ := q1)
            | (go_at_call 27; refine (HP.out _ hk1.low).mono ?_; rintro e w2 ⟨rfl, hb2⟩; have hk2 := hk1.step hb2; obtain ⟨x02, x12, x22, x32, -⟩ := hk2.b1.box4; have y52 := hk2.b0.box.p5)
            | (go_at_call 42; refine (HR.out _ hk2.low).mono ?_; rintro e w3 ⟨rfl, hb3⟩; have hk3 := hk2.step hb3; obtain ⟨p0, p1, p2, p3, p4, p5, z0, z1, z2, z3, z4, z5⟩ := hk3.b2.box; have y53 := hk3.b0.box.p5))
          refine bodyPost_ret (v := .tuple #[.agg #[.bool false, .bool false, .bool false, .bool false, .bool false, .slice none 0 0], .int .i64 6]) (by simp [results, Try.results20, go_sem, p0, p1, p2, p3, p4, p5]) rfl (RetSF.zero ?_)
          exact set6 hk3.low (by omega) _ _ _ _ _ _
        · rw [if_neg h32] at hr
          subst hr
          have f1 : ((ls.length : Int) == 32) = false := by rw [beq_eq_false_iff_ne]; omega
          have HCP : Hid (∀ W, Below w.heap.size w W → Calls Try.prog 36 #[.agg #[.bool m0, .bool m1, .bool m2, .bool m3, .bool m4, .slice a ls.length cap]] W fun e w' => ∃ v, e = .returned (.agg #[.bool m0, .bool m1, .bool m2, .bool m3, .bool m4, v]) ∧ (∃ es, Lo w' W.heap.size 38 v es ls ∧ ∀ g, g < W.heap.size → ∀ e ∈ es, Far g e) ∧ Below W.heap.size W w') := fun W hW => copied_w (HLP.out W hW) (by omega) hd
          have HCX : Hid (∀ W, Below w.heap.size w W → Calls Try.prog 43 #[.agg #[.int .i64 d, .int .i64 t, .int .i64 n, .slice a2 xs.length c2]] W fun e w' => ∃ a m c, e = .returned (.agg #[.int .i64 d, .int .i64 t, .int .i64 n, .slice a m c]) ∧ LnR w' (d, t, n, a, m, c) (d, t, n, xs) ∧ (∀ g, g < W.heap.size → Far g (d, t, n, a, m, c)) ∧ Below W.heap.size W w') := fun W hW => lcopied_w (HLX.out W hW) hdx
          have hn32 : ls.length < 32 := by omega
          clear hv HLX HLP hp hd hml hdx hpd h32
          obtain ⟨i0, hi, hz0, hz1, hz2⟩ := info_parts Try.infoLine
          go_enter Try.func20, Try.ntmps20
          go_wp2_with (first
            | (go_at_call 25; refine (HV.out _ HST.out.low).mono ?_; rintro e w1 ⟨rfl, hb1⟩; have hk1 := HST.out.step hb1; have q1 := hk1.b1.box4; obtain ⟨x0, x1, x2, x3, -⟩ := q1)
            | (go_at_call 27; refine (HP.out _ hk1.low).mono ?_; rintro e w2 ⟨rfl, hb2⟩; have hk2 := hk1.step hb2; obtain ⟨x02, x12, x22, x32, -⟩ := hk2.b1.box4; have y52 := hk2.b0.box.p5)
            | (go_at_call 42; refine (HR.out _ hk2.low).mono ?_; rintro e w3 ⟨rfl, hb3⟩; have hk3 := hk2.step hb3; obtain ⟨p0, p1, p2, p3, p4, p5, -⟩ := hk3.b0.box)
            | (go_at_call 36; refine (HCP.out _ hk3.low).mono ?_; rintro e w4 ⟨v4, rfl, ⟨es, ho4, hf4⟩, hb4⟩; obtain ⟨a4, c4, rfl, hc4, hcm4⟩ := lo_slice ho4; have hk4 := hk3.step hb4; obtain ⟨-, -, -, -, -, -, z04, z14, z24, z34, z44, z54⟩ := hk4.b0.box; obtain ⟨r0, r1, r2, r3, r4, r5, -⟩ := hk4.b0.box))
          have hk5 := hk4.set6 m0 m1 m2 m3 m4 (.slice a4 ls.length c4)
          have ho5 := ho4.other (w' := (((((w4.setCell ⟨w.heap.size, 0, none⟩ (.bool m0)).setCell ⟨w.heap.size, 1, none⟩ (.bool m1)).setCell ⟨w.heap.size, 2, none⟩ (.bool m2)).setCell ⟨w.heap.size, 3, none⟩ (.bool m3)).setCell ⟨w.heap.size, 4, none⟩ (.bool m4)).setCell ⟨w.heap.size, 5, none⟩ (.slice a4 ls.length c4)) (g0 := w.heap.size) (fun e => by have := (ho4.own.lt _ e).1; have := hk3.b0.lt; omega) (hf4 _ hk3.b0.lt) (fun b hb => set6_heap hb _ _ _ _ _ _)
          have hf5 : Hid (∀ e ∈ es, Far w.heap.size e ∧ Far (w.heap.size + 1 + 1) e) := fun e he => ⟨hf4 _ hk3.b0.lt e he, hf4 _ hk3.b2.lt e he⟩
          have hfa : Hid (∀ e ∈ es, ∀ g, g < w.heap.size → Far g e) := fun e he g hg => hf4 g (by have := hk3.b0.lt; omega) e he
          have HW3a : w3.heap.size ≤ ((((((w4.setCell ⟨w.heap.size, 0, none⟩ (.bool m0)).setCell ⟨w.heap.size, 1, none⟩ (.bool m1)).setCell ⟨w.heap.size, 2, none⟩ (.bool m2)).setCell ⟨w.heap.size, 3, none⟩ (.bool m3)).setCell ⟨w.heap.size, 4, none⟩ (.bool m4)).setCell ⟨w.heap.size, 5, none⟩ (.slice a4 ls.length c4)).heap.size := by have := hb4.size; simpa using this
          have hg5 : Hid (∀ g, (Value.slice a4 ls.length c4).ownBlock = some g → w.heap.size + 1 + 1 < g) := fun g hg => by have := (ho4.own.lt _ hg).1; have := hk3.b2.lt; omega
          generalize (((((w4.setCell ⟨w.heap.size, 0, none⟩ (.bool m0)).setCell ⟨w.heap.size, 1, none⟩ (.bool m1)).setCell ⟨w.heap.size, 2, none⟩ (.bool m2)).setCell ⟨w.heap.size, 3, none⟩ (.bool m3)).setCell ⟨w.heap.size, 4, none⟩ (.bool m4)).setCell ⟨w.heap.size, 5, none⟩ (.slice a4 ls.length c4) = W5 at *
          have HW3 : Hid (w3.heap.size ≤ W5.heap.size ∧ w.heap.size + 1 + 1 < w3.heap.size) := ⟨HW3a, hk3.b2.lt⟩
          clear hf4 ho4 hk4 hk3 hk2 hk1 hb1 hb2 hb3 hb4 z04 z14 z24 z34 z44 z54 r0 r1 r2 r3 r4 r5 p0 p1 p2 p3 p4 p5 HV HP HR HCP HST x0 x1 x2 x3 x02 x12 x22 x32 y52
          have hle := ho5.len
          have HO5 := Lib.hid ho5
          have HLE := Lib.hid hle
          have hes : es.length ≤ 32 := by omega
          unfold maxLen at hcm4
          clear ho5 hle
          have HQ : Hid (∀ W, Below W5.heap.size W5 W → RK w 30 38 m0 m1 m2 m3 m4 (.slice a4 ls.length c4) d t n (.slice a2 xs.length c2) W) := fun W hW => hk5.step hW
          have hl0 := low_drew W5
          have hk50 := HQ.out _ hl0
          obtain ⟨x0, x1, x2, x3, -⟩ := hk50.b1.box4
          have y5 := hk50.b0.box.p5
          have HW0 : Hid (w.heap.size ≤ W5.heap.size) := hk5.low.size
          have HKK : Hid (∀ (W6 W7 : World) (o : Obj) (v' : Value), Below W5.heap.size W5 W6 → Spares (W6.alloc o) W7 (.slice a4 ls.length c4) v' → Below w3.heap.size (W6.alloc o) W7 → RK w 30 38 m0 m1 m2 m3 m4 (.slice a4 ls.length c4) d t n (.slice a2 xs.length c2) W7) := fun W6 W7 o v' h6 hs hb => by
            have hk := HQ.out _ h6
            have hk' := hk.step (low_alloc W6 o)
            have h3 := HW3.out
            exact hk'.keep (hk'.low.trans (hb.mono (by omega))) fun g h1 h2 => (hs g (by have := hk'.b2.lt; omega) (fun e => by have := hg5.out g e; omega)).1
          go_region_law ((first
            | (go_simp; go_at_call 43; refine (HCX.out _ hk50.low).mono ?_; rintro e w6 ⟨a6, m6, c6, rfl, hn6, hf6, hb6⟩; have hl6 := stepAny hl0 hb6; have hk6 := HQ.out _ hl6; have y56 := hk6.b0.box.p5; have hs6 : w.heap.size < w6.heap.size := hk6.b0.lt)
            | (refine step_append_m el el_len (by omega) el_one (by rfl) (.tmp 31) (.tmp 34) 28 (by rfl) w3.heap.size 38 i0 (.agg #[.int .i64 0, .int .i64 0, .int .i64 0, .slice none 0 0]) 48 Try.underlying28 hi hz0 hz1 hz2 rfl _ es.length es (by rfl) ((HO5.out.low hl6).own.alloc _) (some ⟨w6.heap.size, 0, none⟩) 1 [(d, t, n, a6, m6, c6)] 1 (by rfl) rfl (by simp) (by omega) (Rm.one (enc := el) w6 (d, t, n, a6, m6, c6) _ _ rfl) (by unfold maxLen; omega) (by omega) (by have := HW3.out.1; have := hl6.size; simp; omega) ?_; intro v7 w7 ho7 hs7 hb7; obtain ⟨a7, c7, rfl⟩ := own_slice4 ho7; have hk7 := HKK.out w6 w7 _ _ hl6 hs7 hb7; have y57 := hk7.b0.box.p5; have z57 := hk7.b0.box.z5)))
          all_goals
            have hk8 := hk7.set5 (.slice a7 (es.length + 1) c7)
            have hsn := ((HO5.out.low hl6).low (low_alloc w6 (.cells #[.int .i64 d, .int .i64 t, .int .i64 n, .slice a6 m6 c6] 38 (0, 0)))).snoc (hn6.below (low_alloc _ _) (Nat.le_refl _)) (fun g hg => hf6 g (HO5.out.own.lt g hg).2) ho7 hs7
            have hlow := hk8.low
            have h8 := hsn.other (w' := w7.setCell ⟨w.heap.size, 5, none⟩ (.slice a7 (es.length + 1) c7)) (g0 := w.heap.size) (fun e => by have := (hsn.own.lt _ e).1; have := HW3.out.2; omega) (fun e he => by
              rcases List.mem_append.1 he with he | he
              · exact (hf5.out e he).1
              · simp at he; subst he; exact hf6 _ (by have := hk5.b0.lt; simpa using this)) fun b hb => Below.heap_setCell _ _ _ _ hb
            have HFIN : Hid (∀ W9, (∀ b, b ≠ w.heap.size + 1 + 1 → W9.heap[b]? = (w7.setCell ⟨w.heap.size, 5, none⟩ (.slice a7 (es.length + 1) c7)).heap[b]?) → LpF w.heap.size W9 (.slice a7 (es.length + 1) c7) (ls ++ [(d, t, n, xs)])) := fun W9 hk9 =>
              (h8.other (w' := W9) (g0 := w.heap.size + 1 + 1) (fun e => by have := (h8.own.lt _ e).1; have := HW3.out.2; omega) (fun e he => by
                rcases List.mem_append.1 he with he | he
                · exact (hf5.out e he).2
                · simp at he; subst he; exact hf6 _ (by have := hk5.b2.lt; simpa using this)) hk9).lpf (by have := HW3.out.2; omega) (fun e he g hg => by
                  rcases List.mem_append.1 he with he | he
                  · exact hfa.out e he g hg
                  · simp at he; subst he; exact hf6 _ (by have := hk5.b0.lt; simp; omega))
            obtain ⟨s0, s1, s2, s3, s4, s5, -⟩ := hk8.b0.box
            obtain ⟨p0, p1, p2, p3, p4, p5, z0, z1, z2, z3, z4, z5⟩ := hk8.b2.box
            clear hsn h8 ho7 hs7 hb7 hk7 hn6 hf6 y56 y57 z57 hk50 x0 x1 x2 x3 y5 hb6 hk6 hk5
            generalize w7.setCell ⟨w.heap.size, 5, none⟩ (.slice a7 (es.length + 1) c7) = W8 at *
            go_wp2
            refine bodyPost_ret (v := .tuple #[.agg #[.bool m0, .bool m1, .bool m2, .bool m3, .bool m4, .slice a7 (es.length + 1) c7], .int .i64 0]) (by simp [results, Try.results20, go_sem, p0, p1, p2, p3, p4, p5]) rfl ⟨m0, m1, m2, m3, m4, _, rfl, rfl, HFIN.out _ fun b hb => set6_heap hb _ _ _ _ _ _, set6 hlow (by omega) _ _ _ _ _ _⟩
end Go.Proofs.Ytehniblcodkmaaa
