/-
  The walk of FramesWrite.
-/
import Derived.Test.YtkgheilaleekdaaLaw0
import Derived.Test.YtkgheilaleekdaaArgs
import Derived.Test.YtkgheilaleekdaaKeeps
import Derived.Deep.DeepCutAuto
namespace Go.Proofs.Ytkgheilaleekdaa
open Go.RowKit

/-- The two boxes of a law (a memory, a place) in every later world. -/
def LK (w : World) (u : Value) (f x n : Int) (W : World) : Prop := Keeps w [(w.heap.size, 24, [u]), (w.heap.size + 1, 26, [.int .i64 f, .int .i64 x, .int .i64 n])] W

theorem LK.start (w : World) (u : Value) (f x n : Int) : LK w u f x n ((w.alloc (.cells #[u] 24 (0, 0))).alloc (.cells #[.int .i64 f, .int .i64 x, .int .i64 n] 26 (0, 0))) :=
  (((Keeps.start w).add 24 [u] rfl).add 26 [.int .i64 f, .int .i64 x, .int .i64 n] (n := w.heap.size + 1) (by simp)).less (by simp)

theorem LK.facts {w W : World} {u : Value} {f x n : Int} (h : LK w u f x n W) :
    W.cell? ⟨w.heap.size, 0, none⟩ = some u ∧ W.cell? ⟨w.heap.size + 1, 0, none⟩ = some (.int .i64 f) ∧ W.cell? ⟨w.heap.size + 1, 1, none⟩ = some (.int .i64 x) ∧ W.cell? ⟨w.heap.size + 1, 2, none⟩ = some (.int .i64 n) ∧ w.heap.size < W.heap.size ∧ w.heap.size + 1 < W.heap.size ∧ W.heap.size ≠ w.heap.size ∧ W.heap.size ≠ w.heap.size + 1 ∧ w.heap.size ≠ W.heap.size ∧ w.heap.size + 1 ≠ W.heap.size := by
  have c0 : Bk W w.heap.size _ [u] := h.2 _ (.head _)
  have c1 : Bk W (w.heap.size + 1) _ [.int .i64 f, .int .i64 x, .int .i64 n] := h.2 _ (.tail _ (.head _))
  exact ⟨c0.cell 0, c1.cell 0, c1.cell 1, c1.cell 2, c0.lt, c1.lt, Nat.ne_of_gt c0.lt, Nat.ne_of_gt c1.lt, Nat.ne_of_lt c0.lt, Nat.ne_of_lt c1.lt⟩

theorem LK.low {w W : World} {u : Value} {f x n : Int} (h : LK w u f x n W) : Below w.heap.size w W := h.1
theorem LK.step {w W W' : World} {u : Value} {f x n : Int} (h : LK w u f x n W) (hb : Below W.heap.size W W') : LK w u f x n W' := Keeps.step h hb
theorem LK.drew {w W : World} {u : Value} {f x n : Int} (h : LK w u f x n W) : LK w u f x n W.drew := Keeps.drew h
theorem LK.alloc {w W : World} {u : Value} {f x n : Int} (h : LK w u f x n W) (o : Obj) : LK w u f x n (W.alloc o) := Keeps.alloc h o

theorem stepAny {w X W : World} (h : Below w.heap.size w X) (k : Below X.heap.size X W) : Below w.heap.size w W := h.trans (k.mono h.size)
theorem low_drew (w : World) : Below w.heap.size w w.drew := (Below.refl _ w).drew
theorem low_alloc (w : World) (o : Obj) : Below w.heap.size w (w.alloc o) := (Below.refl _ w).alloc (Nat.le_refl _) o
theorem low_adrew (w : World) (o : Obj) : Below w.heap.size w (w.alloc o).drew := (low_alloc w o).drew

/-- What a statement `a, e := frames.F(to(m), ..)` leaves: slot s7 points to the memory, s8 is the error. -/
def Got (W0 : World) (r : List (List UInt8) × Int) (s7 s8 : Value) (W : World) : Prop :=
  ∃ g a4 n4 c4, s7 = .pointer (some ⟨g, 0, none⟩) ∧ s8 = .int .i64 r.2 ∧ Below W0.heap.size W0 W ∧ W0.heap.size ≤ g ∧ Bk W g 30 [.slice a4 n4 c4] ∧ Res W0.heap.size r (.slice a4 n4 c4) W

theorem Got.new {W0 W4 : World} {r : List (List UInt8) × Int} {a4 : Option Addr} {n4 c4 B : Nat} (hl : Below W0.heap.size W0 W4) (hr : Res B r (.slice a4 n4 c4) W4) (hB : W0.heap.size ≤ B) :
    Got W0 r (.pointer (some ⟨W4.heap.size, 0, none⟩)) (.int .i64 r.2) (W4.alloc (.cells #[.slice a4 n4 c4] 30 (0, 0))) :=
  ⟨_, a4, n4, c4, rfl, rfl, hl.alloc hl.size _, hl.size, Bk.newAt _ _ [_] rfl, (hr.below (low_alloc W4 _) (Nat.le_refl _)).keep (fun _ _ _ => rfl) hB⟩

theorem Got.old {W0 W4 X : World} {r : List (List UInt8) × Int} {a4 : Option Addr} {n4 c4 B g : Nat} {u : Value} (hl : Below W0.heap.size W0 W4) (hr : Res B r (.slice a4 n4 c4) W4) (hB : W0.heap.size ≤ B) (hg : W0.heap.size ≤ g) (hgB : g < B)
    (hX : Bk X g 30 [u]) (hXW : Below X.heap.size X W4) :
    Got W0 r (.pointer (some ⟨g, 0, none⟩)) (.int .i64 r.2) (W4.setCell ⟨g, 0, none⟩ (.slice a4 n4 c4)) :=
  ⟨_, a4, n4, c4, rfl, rfl, hl.setCell hg _, hg, (hX.below hXW hX.lt).set 0 _, hr.keep (fun b h1 _ => Below.heap_setCell _ _ _ _ (by show b ≠ g; omega)) hB⟩

theorem rwrite_w {v vb : Value} {ps : List (List UInt8)} {bs : List UInt8} {w : World} {A : Nat → Prop} (f x : Int) (hv : Pa A w v ps) (hA : ∀ b, A b → b < w.heap.size) (hb : Sl eb w vb bs) :
    Calls Try.prog 17 #[.agg #[v], .int .i64 f, .int .i64 x, vb] w (RPost w A (Fr.write ps f x bs)) := by
  by_cases hc : Fr.chk ps f x bs.length = 0
  · exact rwrite_ok f x hv hA hb hc
  · exact rwrite_err f x hv hb hc

theorem rset_w {v vb : Value} {ps : List (List UInt8)} {bs : List UInt8} {w : World} {A : Nat → Prop} (f : Int) (hv : Pa A w v ps) (hA : ∀ b, A b → b < w.heap.size) (hb : Sl eb w vb bs) :
    Calls Try.prog 21 #[.agg #[v], .int .i64 f, vb] w (RPost w A (Fr.setF ps f bs)) := by
  by_cases hc : Fr.chk ps f 0 bs.length = 0
  · exact rset_ok f hv hA hb hc
  · exact rset_err f hv hb hc

set_option maxRecDepth 20000 in
set_option maxHeartbeats 1600000 in
theorem lwrite_w {w : World} {v0 v1 v2 : Value} (h0 : IsMem w v0) (h1 : IsAt w v1) (h2 : IsBytes w v2) :
    Calls Try.prog 5 #[v0, v1, v2] w fun e w' => e = .returned (.bool true) ∧ Below w.heap.size w w' := by
  obtain ⟨u, ps, rfl, hv⟩ := h0
  obtain ⟨f, x, n, rfl, -, -, -⟩ := h1
  obtain ⟨bs, hb⟩ := h2
  have HF := Lib.hid (fun w' (hb : Below w.heap.size w w') => rfew_w (hv.below hb (Nat.le_refl _)))
  obtain ⟨a, cap, rfl, -⟩ := hv.open
  have hbx := hb
  obtain ⟨ab, cb, rfl, hbc, hbm, -⟩ := hbx
  unfold maxLen at hbm
  cases hfew : Fr.few ps with
  | false =>
    rw [hfew] at HF
    clear hfew hv hb
    go_enter Try.func5, Try.ntmps5
    go_wp2_with (first
      | (go_at_call 10; refine (awake_w w2).mono ?_; rintro e w3 ⟨rfl, hb3⟩)
      | (go_at_call 10; refine (awake_w _).mono ?_; rintro e w1 ⟨rfl, hb1⟩; have hk1 := LK.step (LK.start _ _ _ _ _) hb1; obtain ⟨k0, k1, k2, k3, z0, z1, y0, y1, x0, x1⟩ := hk1.facts)
      | (go_at_call 11; refine (HF.out w1 hk1.low).mono ?_; rintro e w2 ⟨rfl, hb2⟩))
    go_ret
    have q2 := (hk1.step hb2).low
    exact ⟨rfl, q2.trans (hb3.mono q2.size)⟩
  | true =>
    rw [hfew] at HF
    by_cases hlen : bs.length ≤ 300
    · have f1 : (bs.length : Int) ≤ 300 := by omega
      have H1 := Lib.hid (fun w' (hbl : Below w.heap.size w w') => fwrite_w f x (hv.below hbl (Nat.le_refl _)) (hb.below hbl (Nat.le_refl _)))
      have H2 := Lib.hid (fun w' (hbl : Below w.heap.size w w') => rwrite_w f x (hv.pa.below hbl (Nat.le_refl _)) (fun b h => Nat.lt_of_lt_of_le h hbl.size) (hb.below hbl (Nat.le_refl _)))
      have H3 := Lib.hid (fun w' (hbl : Below w.heap.size w w') => fset_w f (hv.below hbl (Nat.le_refl _)) (hb.below hbl (Nat.le_refl _)))
      have H4 := Lib.hid (fun w' (hbl : Below w.heap.size w w') => rset_w f (hv.pa.below hbl (Nat.le_refl _)) (fun b h => Nat.lt_of_lt_of_le h hbl.size) (hb.below hbl (Nat.le_refl _)))
      rcases hr1 : Fr.write ps f x bs with ⟨qs, c⟩
      rcases hr2 : Fr.setF ps f bs with ⟨rs, d⟩
      rw [hr1] at H1 H2
      rw [hr2] at H3 H4
      clear hr1 hr2 hfew hv hb
      go_enter Try.func5, Try.ntmps5
      go_wp2_with (first
        | (go_at_call 10; refine (awake_w _).mono ?_; rintro e w1 ⟨rfl, hb1⟩; have hk1 := LK.step (LK.start _ _ _ _ _) hb1; obtain ⟨k0, k1, k2, k3, z0, z1, y0, y1, x0, x1⟩ := hk1.facts)
        | (go_at_call 11; refine (HF.out w1 hk1.low).mono ?_; rintro e w2 ⟨rfl, hb2⟩; have hk2 := hk1.step hb2; obtain ⟨k0, k1, k2, k3, z0, z1, y0, y1, x0, x1⟩ := hk2.facts))
      go_cut [7, 8] (fun s7 s8 W => Got w2 (qs, c) s7 s8 W)
      case first =>
        have k0d : w2.drew.cell? ⟨w.heap.size, 0, none⟩ = some (.slice a ps.length cap) := k0
        have k1d : w2.drew.cell? ⟨w.heap.size + 1, 0, none⟩ = some (.int .i64 f) := k1
        have k2d : w2.drew.cell? ⟨w.heap.size + 1, 1, none⟩ = some (.int .i64 x) := k2
        clear hb1 hb2 H2 H3 H4
        go_region_held3 (fun w' => w'.cell? ⟨w.heap.size, 0, none⟩ = some (.slice a ps.length cap) ∧ w'.cell? ⟨w.heap.size + 1, 0, none⟩ = some (.int .i64 f) ∧ w'.cell? ⟨w.heap.size + 1, 1, none⟩ = some (.int .i64 x)) (first | go_keep | exact ⟨by assumption, by assumption, by assumption⟩) ((first
          | (go_at_call 13; refine (to_w _ _ _ _).mono ?_; rintro e w3 ⟨rfl, hb3⟩; have hl3 := stepAny (by first | exact low_drew w2 | exact low_adrew w2 _) hb3; have hk3 := hk2.step hl3; obtain ⟨k03, k13, k23, k33, z03, z13, y03, y13, x03, x13⟩ := hk3.facts; obtain ⟨hc3, hf3⟩ := bcell hb3; (try have hz3 : w2.heap.size < w3.heap.size := (by have := hb3.size; simp at this; omega)))
          | (go_at_call 12; refine (H1.out _ (by first | exact hk3.low | exact (hk3.alloc _).low)).mono ?_; rintro e w4 ⟨u4, rfl, hr4, hb4⟩; obtain ⟨a4, n4, c4, rfl⟩ := hr4.form; have hl4 := stepAny (by first | exact Below.refl _ w3 | exact low_alloc w3 _) hb4; have hk4 := hk3.step hl4; obtain ⟨k04, k14, k24, k34, z04, z14, y04, y14, x04, x14⟩ := hk4.facts; obtain ⟨hc4, hf4⟩ := bcell hb4; (try have hz4 : w2.heap.size < w4.heap.size := (by have := hb4.size; simp at this; omega)); (try have hz5 : w3.heap.size < w4.heap.size := (by have := hb4.size; simp at this; omega)))))
        all_goals (go_wp2_with fail; go_meet)
        all_goals first
          | exact Got.new (stepAny hl3 hl4) hr4 hl3.size
          | exact Got.old (stepAny hl3 hl4) hr4 (by simp; have := hl3.size; omega) hl3.size (by simp) (Bk.newAt w3 _ [_] rfl) hb4
          | exact Got.old (stepAny hl3 hl4) hr4 hl3.size (Nat.le_refl _) hz3 (Bk.newAt w2 _ [_] rfl) (stepAny (stepAny (low_drew _) hb3) hl4)
      case rest =>
        obtain ⟨g7, a7, n7, c7, rfl, rfl, hlc, hg7, B7, R7⟩ := hcut
        have hkc := hk2.step hlc
        obtain ⟨k0c, k1c, k2c, k3c, z0c, z1c, y0c, y1c, x0c, x1c⟩ := hkc.facts
        have HR7 := Lib.hid R7
        clear R7 k0 k1 k2 k3
        go_wp2_with (go_at_call 17; refine (H2.out wc hkc.low).mono ?_; rintro e w5 ⟨a9, n9, c9, rfl, hp5, hb5⟩; have HP5 := Lib.hid hp5; clear hp5; have hk5 := hkc.step hb5; obtain ⟨k05, k15, k25, k35, z05, z15, y05, y15, x05, x15⟩ := hk5.facts)
        have hk6 := hk5.alloc (.cells #[.slice a9 n9 c9] 24 (0, 0))
        have hl6 := (stepAny (Below.refl _ wc) hb5).alloc hb5.size (.cells #[.slice a9 n9 c9] 24 (0, 0))
        have B76 := B7.below hl6 B7.lt
        have HR76 := Lib.hid (HR7.out.below hl6 (Nat.le_refl _))
        have B96 := Bk.newAt w5 24 [.slice a9 n9 c9] rfl
        have HP96 := Lib.hid (HP5.out.below (low_alloc w5 (.cells #[.slice a9 n9 c9] 24 (0, 0))) (Nat.le_refl _)).pg
        generalize w5.alloc (.cells #[.slice a9 n9 c9] 24 (0, 0)) = w6 at *
        generalize w5.heap.size = g9 at *
        clear HR7 HP5 B7 hk5 hkc hb5 hk2 H1 H2 HF hb1 hb2
        clear k0c k1c k2c k3c z0c z1c y0c y1c x0c x1c k05 k15 k25 k35
        obtain ⟨k0, k1, k2, k3, z0, z1, y0, y1, x0, x1⟩ := hk6.facts
        go_cut [11, 12] (fun s7 s8 W => Got w6 (rs, d) s7 s8 W)
        case first =>
          have k0d : w6.drew.cell? ⟨w.heap.size, 0, none⟩ = some (.slice a ps.length cap) := k0
          have k1d : w6.drew.cell? ⟨w.heap.size + 1, 0, none⟩ = some (.int .i64 f) := k1
          clear H4 B76 HR76 B96 HP96
          go_region_held3 (fun w' => w'.cell? ⟨w.heap.size, 0, none⟩ = some (.slice a ps.length cap) ∧ w'.cell? ⟨w.heap.size + 1, 0, none⟩ = some (.int .i64 f)) (first | go_keep | exact ⟨by assumption, by assumption⟩) ((first
            | (go_at_call 13; refine (to_w _ _ _ _).mono ?_; rintro e w3 ⟨rfl, hb3⟩; have hl3 := stepAny (by first | exact low_drew w6 | exact low_adrew w6 _) hb3; have hk3 := hk6.step hl3; obtain ⟨k03, k13, k23, k33, z03, z13, y03, y13, x03, x13⟩ := hk3.facts; obtain ⟨hc3, hf3⟩ := bcell hb3; (try have hz3 : w6.heap.size < w3.heap.size := (by have := hb3.size; simp at this; omega)))
            | (go_at_call 20; refine (H3.out _ (by first | exact hk3.low | exact (hk3.alloc _).low)).mono ?_; rintro e w4 ⟨u4, rfl, hr4, hb4⟩; obtain ⟨a4, n4, c4, rfl⟩ := hr4.form; have hl4 := stepAny (by first | exact Below.refl _ w3 | exact low_alloc w3 _) hb4; have hk4 := hk3.step hl4; obtain ⟨k04, k14, k24, k34, z04, z14, y04, y14, x04, x14⟩ := hk4.facts; obtain ⟨hc4, hf4⟩ := bcell hb4; (try have hz4 : w6.heap.size < w4.heap.size := (by have := hb4.size; simp at this; omega)); (try have hz5 : w3.heap.size < w4.heap.size := (by have := hb4.size; simp at this; omega)))))
          all_goals (go_wp2_with fail; go_meet)
          all_goals first
            | exact Got.new (stepAny hl3 hl4) hr4 hl3.size
            | exact Got.old (stepAny hl3 hl4) hr4 (by simp; have := hl3.size; omega) hl3.size (by simp) (Bk.newAt w3 _ [_] rfl) hb4
            | exact Got.old (stepAny hl3 hl4) hr4 hl3.size (Nat.le_refl _) hz3 (Bk.newAt w6 _ [_] rfl) (stepAny (stepAny (low_drew _) hb3) hl4)
        case rest =>
          obtain ⟨g11, a11, n11, c11, rfl, rfl, hld, hg11, B11, R11⟩ := hcut
          have hkd := hk6.step hld
          have B7d := B76.below hld B76.lt
          have B9d := B96.below hld B96.lt
          have HR7d := Lib.hid (HR76.out.below hld (Nat.le_refl _))
          have HP9d := Lib.hid (HP96.out.below hld (Nat.le_refl _))
          have HR11 := Lib.hid R11
          clear R11 k0 k1 k2 k3 B76 B96 HR76 HP96 hk6 H3
          obtain ⟨k0, k1, k2, k3, z0, z1, y0, y1, x0, x1⟩ := hkd.facts
          go_wp2_with (go_at_call 21; refine (H4.out wc hkd.low).mono ?_; rintro e w5 ⟨a5, n5, c5, rfl, hp5, hb5⟩; have HP5 := Lib.hid hp5; clear hp5)
          have hb56 := (stepAny (Below.refl _ wc) hb5).alloc hb5.size (.cells #[.slice a5 n5 c5] 24 (0, 0))
          have hkf := hkd.step hb56
          have B7f := B7d.below hb56 B7d.lt
          have B9f := B9d.below hb56 B9d.lt
          have B11f := B11.below hb56 B11.lt
          have B13f := Bk.newAt w5 24 [.slice a5 n5 c5] rfl
          have P7f := HR7d.out.pg.below hb56 (Nat.le_refl _)
          have P9f := HP9d.out.below hb56 (Nat.le_refl _)
          have P11f := HR11.out.pg.below hb56 (Nat.le_refl _)
          have P13f := (HP5.out.below (low_alloc w5 (.cells #[.slice a5 n5 c5] 24 (0, 0))) (Nat.le_refl _)).pg
          generalize w5.alloc (.cells #[.slice a5 n5 c5] 24 (0, 0)) = wf at *
          generalize w5.heap.size = g13 at *
          have HE1 : Hid (∀ W, Below wf.heap.size wf W → Calls Try.prog 18 #[.agg #[.slice a7 n7 c7], .agg #[.slice a9 n9 c9]] W fun e w' => e = .returned (.bool true) ∧ Below W.heap.size W w') := fun W hW => requal_t (P7f.below hW (Nat.le_refl _)) (P9f.below hW (Nat.le_refl _))
          have HE2 : Hid (∀ W, Below wf.heap.size wf W → Calls Try.prog 18 #[.agg #[.slice a11 n11 c11], .agg #[.slice a5 n5 c5]] W fun e w' => e = .returned (.bool true) ∧ Below W.heap.size W w') := fun W hW => requal_t (P11f.below hW (Nat.le_refl _)) (P13f.below hW (Nat.le_refl _))
          have q7 : ∀ W, Below wf.heap.size wf W → W.cell? ⟨g7, 0, none⟩ = some (.slice a7 n7 c7) ∧ W.cell? ⟨g9, 0, none⟩ = some (.slice a9 n9 c9) ∧ W.cell? ⟨g11, 0, none⟩ = some (.slice a11 n11 c11) ∧ W.cell? ⟨g13, 0, none⟩ = some (.slice a5 n5 c5) := fun W hW =>
            ⟨(B7f.below hW B7f.lt).cell 0, (B9f.below hW B9f.lt).cell 0, (B11f.below hW B11f.lt).cell 0, (B13f.below hW B13f.lt).cell 0⟩
          have HQ := Lib.hid q7
          obtain ⟨e7, e9, e11, e13⟩ := HQ.out wf.drew (low_drew wf)
          clear q7 P7f P9f P11f P13f B7f B9f B11f B13f HR7d HP9d HR11 HP5 hb5 H4 B7d B9d B11 k0 k1 k2 k3 z0 z1 y0 y1 x0 x1
          go_region_held3 (fun w' => w'.cell? ⟨g7, 0, none⟩ = some (.slice a7 n7 c7) ∧ w'.cell? ⟨g9, 0, none⟩ = some (.slice a9 n9 c9) ∧ w'.cell? ⟨g11, 0, none⟩ = some (.slice a11 n11 c11) ∧ w'.cell? ⟨g13, 0, none⟩ = some (.slice a5 n5 c5)) (first | go_keep | exact ⟨by assumption, by assumption, by assumption, by assumption⟩) ((first
            | (go_at_call 19; refine (from_w _ _ _ w12).mono ?_; rintro e w13 ⟨rfl, hb13⟩; have hl13 := stepAny hl12 hb13; obtain ⟨m7, m9, m11, m13⟩ := HQ.out w13 hl13)
            | (go_at_call 19; refine (from_w _ _ _ _).mono ?_; rintro e w11 ⟨rfl, hb11⟩; have hl11 := stepAny (low_drew wf) hb11; obtain ⟨m7, m9, m11, m13⟩ := HQ.out w11 hl11)
            | (go_at_call 18; refine (HE2.out w13 hl13).mono ?_; rintro e w14 ⟨rfl, hb14⟩; have hl14 := stepAny hl13 hb14; obtain ⟨m7, m9, m11, m13⟩ := HQ.out w14 hl14)
            | (go_at_call 18; refine (HE1.out w11 hl11).mono ?_; rintro e w12 ⟨rfl, hb12⟩; have hl12 := stepAny hl11 hb12; obtain ⟨m7, m9, m11, m13⟩ := HQ.out w12 hl12)))
          go_wp2
          go_ret
          exact ⟨rfl, (hkf.step hl14).low⟩
    · have f1 : (300 : Int) < (bs.length : Int) := by omega
      clear hfew hv hb
      go_enter Try.func5, Try.ntmps5
      go_wp2_with (first
        | (go_at_call 10; refine (awake_w w2).mono ?_; rintro e w3 ⟨rfl, hb3⟩)
        | (go_at_call 10; refine (awake_w _).mono ?_; rintro e w1 ⟨rfl, hb1⟩; have hk1 := LK.step (LK.start _ _ _ _ _) hb1; obtain ⟨k0, k1, k2, k3, z0, z1, y0, y1, x0, x1⟩ := hk1.facts)
        | (go_at_call 11; refine (HF.out w1 hk1.low).mono ?_; rintro e w2 ⟨rfl, hb2⟩))
      go_ret
      have q2 := (hk1.step hb2).low
      exact ⟨rfl, q2.trans (hb3.mono q2.size)⟩
end Go.Proofs.Ytkgheilaleekdaa
