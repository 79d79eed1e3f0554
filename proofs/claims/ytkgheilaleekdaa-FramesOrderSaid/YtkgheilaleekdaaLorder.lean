/-
  The walk of FramesOrder.
-/
import Derived.Test.YtkgheilaleekdaaLcopy
namespace Fr
theorem put_get {p b : List UInt8} {x : Nat} (h : x + b.length ≤ p.length) (j : Nat) : (put p x b)[j]? = if j < x then p[j]? else if j < x + b.length then b[j - x]? else p[j]? := by
  unfold put
  rw [List.getElem?_append]
  have e : (p.take x).length = x := by simp; omega
  rw [e]
  by_cases h1 : j < x
  · rw [if_pos h1, if_pos h1, List.getElem?_take, if_pos h1]
  · rw [if_neg h1, if_neg h1, List.getElem?_append]
    by_cases h2 : j < x + b.length
    · rw [if_pos h2, if_pos (by omega)]
    · rw [if_neg h2, if_neg (by omega), List.getElem?_drop]
      congr 1
      omega

theorem put_comm {p a b : List UInt8} {x y : Nat} (h1 : x + a.length ≤ p.length) (h2 : y + b.length ≤ p.length) (hd : x + a.length ≤ y ∨ y + b.length ≤ x) : put (put p x a) y b = put (put p y b) x a := by
  apply List.ext_getElem?
  intro j
  rw [put_get (p := put p x a) (b := b) (by rw [length_put h1]; exact h2), put_get (p := put p y b) (b := a) (by rw [length_put h2]; exact h1), put_get h1, put_get h2]
  by_cases c1 : j < x <;> by_cases c2 : j < x + a.length <;> by_cases c3 : j < y <;> by_cases c4 : j < y + b.length <;> simp only [c1, c2, c3, c4, if_true, if_false] <;> omega

theorem put_same {p a b : List UInt8} {x : Nat} (h1 : x + a.length ≤ p.length) (h2 : a.length = b.length) : put (put p x a) x b = put p x b := by
  apply List.ext_getElem?
  intro j
  rw [put_get (p := put p x a) (b := b) (by rw [length_put h1]; omega), put_get h1, put_get (p := p) (b := b) (by omega), h2]
  by_cases c1 : j < x <;> by_cases c2 : j < x + b.length <;> simp only [c1, c2, if_true, if_false]

theorem write_again {ps : List (List UInt8)} {F X G Y : Nat} {a b : List UInt8} (h1 : chk ps F X a.length = 0) (h2 : chk ps G Y b.length = 0) :
    chk (write ps F X a).1 G Y b.length = 0 := by
  obtain ⟨hF, qs, hw, hqs, _, _, _, _, hv, _⟩ := write_ok h1
  rw [hw]
  exact chk_ok hv (chk_zero h2).2

theorem write_err0 {ps : List (List UInt8)} {F X : Int} {b : List UInt8} (h : chk ps F X b.length = 0) : (write ps F X b).2 = 0 := by unfold write; rw [if_pos h]

/-- Two writes to ranges without a common byte can be exchanged. -/
theorem write_comm {ps : List (List UInt8)} {F X G Y : Nat} {a b : List UInt8} (h1 : chk ps F X a.length = 0) (h2 : chk ps G Y b.length = 0) (hd : F ≠ G ∨ X + a.length ≤ Y ∨ Y + b.length ≤ X) :
    write (write ps F X a).1 G Y b = write (write ps G Y b).1 F X a := by
  obtain ⟨hF, qs, hw, hqs, hF96, hX, hl, hql, hv, hpl⟩ := write_ok h1
  obtain ⟨hG, rs, hw', hrs, hG96, hY, _, hrl, hv', _⟩ := write_ok h2
  have h3 := write_again h1 h2
  have h4 := write_again h2 h1
  rw [hw] at h3 ⊢
  rw [hw'] at h4 ⊢
  obtain ⟨hGq, qs', e1, e2, _⟩ := write_ok h3
  obtain ⟨hFr, rs', e3, e4, _⟩ := write_ok h4
  rw [e1, e3, e2, e4]
  congr 1
  have hpF := hpl F hF
  have hpG := hpl G hG
  by_cases hFG : F = G
  · subst hFG
    have hd' : X + a.length ≤ Y ∨ Y + b.length ≤ X := by rcases hd with h | h; exact absurd rfl h; exact h
    have e5 : qs[F] = put ps[F] X a := by subst hqs; rw [List.getElem_set_self]
    have e6 : rs[F] = put ps[F] Y b := by subst hrs; rw [List.getElem_set_self]
    rw [e5, e6, hqs, hrs, List.set_set, List.set_set, put_comm (by omega) (by omega) hd']
  · have e5 : qs[G] = ps[G] := by subst hqs; rw [List.getElem_set_ne hFG]
    have e6 : rs[F] = ps[F] := by subst hrs; rw [List.getElem_set_ne (fun e => hFG e.symm)]
    rw [e5, e6, hqs, hrs, List.set_comm _ _ hFG]

/-- Of two writes to one range the second one counts. -/
theorem write_last {ps : List (List UInt8)} {F X : Nat} {a b : List UInt8} (h1 : chk ps F X a.length = 0) (h2 : chk ps F X b.length = 0) (hl : a.length = b.length) :
    write (write ps F X a).1 F X b = write ps F X b := by
  obtain ⟨hF, qs, hw, hqs, hF96, hX, hl', hql, hv, hpl⟩ := write_ok h1
  obtain ⟨hG, rs, hw', hrs, _⟩ := write_ok h2
  have h3 := write_again h1 h2
  rw [hw] at h3 ⊢
  rw [hw']
  obtain ⟨hGq, qs', e1, e2, _⟩ := write_ok h3
  rw [e1, e2, hrs]
  congr 1
  have hpF := hpl F hF
  have e5 : qs[F] = put ps[F] X a := by subst hqs; rw [List.getElem_set_self]
  rw [e5, hqs, List.set_set, put_same (by omega) hl]
end Fr
namespace Go.Proofs.Ytkgheilaleekdaa
open Go.RowKit

/-- The three boxes of the law in every later world. -/
def LK3 (w : World) (u : Value) (f x n g y m : Int) (p q : Value) (W : World) : Prop := Keeps w [(w.heap.size, 24, [u]), (w.heap.size + 1, 54, [.int .i64 f, .int .i64 x, .int .i64 n, .int .i64 g, .int .i64 y, .int .i64 m]), (w.heap.size + 1 + 1, 55, [p, q])] W
theorem LK3.start (w : World) (u : Value) (f x n g y m : Int) (p q : Value) : LK3 w u f x n g y m p q (((w.alloc (.cells #[u] 24 (0, 0))).alloc (.cells #[.int .i64 f, .int .i64 x, .int .i64 n, .int .i64 g, .int .i64 y, .int .i64 m] 54 (0, 0))).alloc (.cells #[p, q] 55 (0, 0))) :=
  ((((Keeps.start w).add 24 [u] rfl).add 54 [.int .i64 f, .int .i64 x, .int .i64 n, .int .i64 g, .int .i64 y, .int .i64 m] (n := w.heap.size + 1) (by simp)).add 55 [p, q] (n := w.heap.size + 1 + 1) (by simp)).less (by simp)
theorem LK3.facts {w W : World} {u p q : Value} {f x n g y m : Int} (h : LK3 w u f x n g y m p q W) :
    W.cell? ⟨w.heap.size, 0, none⟩ = some u ∧ W.cell? ⟨w.heap.size + 1, 0, none⟩ = some (.int .i64 f) ∧ W.cell? ⟨w.heap.size + 1, 1, none⟩ = some (.int .i64 x) ∧ W.cell? ⟨w.heap.size + 1, 2, none⟩ = some (.int .i64 n) ∧ W.cell? ⟨w.heap.size + 1, 3, none⟩ = some (.int .i64 g) ∧ W.cell? ⟨w.heap.size + 1, 4, none⟩ = some (.int .i64 y) ∧ W.cell? ⟨w.heap.size + 1, 5, none⟩ = some (.int .i64 m) ∧
      W.cell? ⟨w.heap.size + 1 + 1, 0, none⟩ = some p ∧ W.cell? ⟨w.heap.size + 1 + 1, 1, none⟩ = some q ∧
      w.heap.size < W.heap.size ∧ w.heap.size + 1 < W.heap.size ∧ w.heap.size + 1 + 1 < W.heap.size ∧ W.heap.size ≠ w.heap.size ∧ W.heap.size ≠ w.heap.size + 1 ∧ W.heap.size ≠ w.heap.size + 1 + 1 ∧ w.heap.size ≠ W.heap.size ∧ w.heap.size + 1 ≠ W.heap.size ∧ w.heap.size + 1 + 1 ≠ W.heap.size := by
  have c0 : Bk W w.heap.size _ [u] := h.2 _ (.head _)
  have c1 : Bk W (w.heap.size + 1) _ [.int .i64 f, .int .i64 x, .int .i64 n, .int .i64 g, .int .i64 y, .int .i64 m] := h.2 _ (.tail _ (.head _))
  have c2 : Bk W (w.heap.size + 1 + 1) _ [p, q] := h.2 _ (.tail _ (.tail _ (.head _)))
  exact ⟨c0.cell 0, c1.cell 0, c1.cell 1, c1.cell 2, c1.cell 3, c1.cell 4, c1.cell 5, c2.cell 0, c2.cell 1, c0.lt, c1.lt, c2.lt, Nat.ne_of_gt c0.lt, Nat.ne_of_gt c1.lt, Nat.ne_of_gt c2.lt, Nat.ne_of_lt c0.lt, Nat.ne_of_lt c1.lt, Nat.ne_of_lt c2.lt⟩
theorem LK3.low {w W : World} {u p q : Value} {f x n g y m : Int} (h : LK3 w u f x n g y m p q W) : Below w.heap.size w W := h.1
theorem LK3.step {w W W' : World} {u p q : Value} {f x n g y m : Int} (h : LK3 w u f x n g y m p q W) (hb : Below W.heap.size W W') : LK3 w u f x n g y m p q W' := Keeps.step h hb
theorem LK3.alloc {w W : World} {u p q : Value} {f x n g y m : Int} (h : LK3 w u f x n g y m p q W) (o : Obj) : LK3 w u f x n g y m p q (W.alloc o) := Keeps.alloc h o

/-- The boxes of the law and the two places in every later world. -/
def LK5 (w : World) (u : Value) (f x n g y m : Int) (p q : Value) (g7 g8 : Nat) (W : World) : Prop := Keeps w [(w.heap.size, 24, [u]), (w.heap.size + 1 + 1, 55, [p, q]), (g7, 26, [.int .i64 f, .int .i64 x, .int .i64 n]), (g8, 26, [.int .i64 g, .int .i64 y, .int .i64 m])] W
theorem LK5.facts {w W : World} {u p q : Value} {f x n g y m : Int} {g7 g8 : Nat} (h : LK5 w u f x n g y m p q g7 g8 W) :
    W.cell? ⟨w.heap.size, 0, none⟩ = some u ∧ W.cell? ⟨w.heap.size + 1 + 1, 0, none⟩ = some p ∧ W.cell? ⟨w.heap.size + 1 + 1, 1, none⟩ = some q ∧ W.cell? ⟨g7, 0, none⟩ = some (.int .i64 f) ∧ W.cell? ⟨g7, 1, none⟩ = some (.int .i64 x) ∧ W.cell? ⟨g8, 0, none⟩ = some (.int .i64 g) ∧ W.cell? ⟨g8, 1, none⟩ = some (.int .i64 y) ∧
      w.heap.size < W.heap.size ∧ w.heap.size + 1 + 1 < W.heap.size ∧ g7 < W.heap.size ∧ g8 < W.heap.size ∧ W.heap.size ≠ w.heap.size ∧ W.heap.size ≠ w.heap.size + 1 + 1 ∧ W.heap.size ≠ g7 ∧ W.heap.size ≠ g8 ∧ w.heap.size ≠ W.heap.size ∧ w.heap.size + 1 + 1 ≠ W.heap.size ∧ g7 ≠ W.heap.size ∧ g8 ≠ W.heap.size := by
  have c0 : Bk W w.heap.size _ [u] := h.2 _ (.head _)
  have c2 : Bk W (w.heap.size + 1 + 1) _ [p, q] := h.2 _ (.tail _ (.head _))
  have c7 : Bk W g7 _ [.int .i64 f, .int .i64 x, .int .i64 n] := h.2 _ (.tail _ (.tail _ (.head _)))
  have c8 : Bk W g8 _ [.int .i64 g, .int .i64 y, .int .i64 m] := h.2 _ (.tail _ (.tail _ (.tail _ (.head _))))
  exact ⟨c0.cell 0, c2.cell 0, c2.cell 1, c7.cell 0, c7.cell 1, c8.cell 0, c8.cell 1, c0.lt, c2.lt, c7.lt, c8.lt, Nat.ne_of_gt c0.lt, Nat.ne_of_gt c2.lt, Nat.ne_of_gt c7.lt, Nat.ne_of_gt c8.lt, Nat.ne_of_lt c0.lt, Nat.ne_of_lt c2.lt, Nat.ne_of_lt c7.lt, Nat.ne_of_lt c8.lt⟩
theorem LK5.low {w W : World} {u p q : Value} {f x n g y m : Int} {g7 g8 : Nat} (h : LK5 w u f x n g y m p q g7 g8 W) : Below w.heap.size w W := h.1
theorem LK5.step {w W W' : World} {u p q : Value} {f x n g y m : Int} {g7 g8 : Nat} (h : LK5 w u f x n g y m p q g7 g8 W) (hb : Below W.heap.size W W') : LK5 w u f x n g y m p q g7 g8 W' := Keeps.step h hb
theorem LK5.alloc {w W : World} {u p q : Value} {f x n g y m : Int} {g7 g8 : Nat} (h : LK5 w u f x n g y m p q g7 g8 W) (o : Obj) : LK5 w u f x n g y m p q g7 g8 (W.alloc o) := Keeps.alloc h o

set_option maxRecDepth 20000 in
set_option maxHeartbeats 8000000 in
theorem lorder_w {w : World} {v0 v1 v2 : Value} (h0 : IsMem w v0) (h1 : IsAts2 w v1) (h2 : IsBytes2 w v2) :
    Calls Try.prog 7 #[v0, v1, v2] w fun e w' => e = .returned (.bool true) ∧ Below w.heap.size w w' := by
  obtain ⟨u, ps, rfl, hv⟩ := h0
  obtain ⟨f, x, n, g, y, m, rfl, hx63, hy63⟩ := h1
  obtain ⟨pb, qb, xs, ys, rfl, ha, hb⟩ := h2
  have HF := Lib.hid (fun w' (hb : Below w.heap.size w w') => rfew_w (hv.below hb (Nat.le_refl _)))
  have HV := Lib.hid hv
  have HA := Lib.hid ha
  have HB := Lib.hid hb
  obtain ⟨a, cap, rfl, hcc, hcm, -⟩ := hv.open
  obtain ⟨aa, ca, rfl, hac, ham, -⟩ := ha
  obtain ⟨ab, cb, rfl, hbc, hbm, -⟩ := hb
  unfold maxLen at hbm hcm ham
  by_cases hgo : Fr.few ps = true ∧ xs.length ≤ 300 ∧ ys.length ≤ 300
  · obtain ⟨hfew, hla, hlb⟩ := hgo
    rw [hfew] at HF
    have f1 : (xs.length : Int) ≤ 300 := by omega
    have f2 : (ys.length : Int) ≤ 300 := by omega
    have H1 := Lib.hid (fun w' (hbl : Below w.heap.size w w') => fwrite_w f x (HV.out.below hbl (Nat.le_refl _)) (HA.out.below hbl (Nat.le_refl _)))
    have H2 := Lib.hid (fun w' (hbl : Below w.heap.size w w') => fwrite_w g y (HV.out.below hbl (Nat.le_refl _)) (HB.out.below hbl (Nat.le_refl _)))
    clear hfew hv
    go_enter Try.func7, Try.ntmps7
    go_wp2_with (first
      | (go_at_call 10; refine (awake_w _).mono ?_; rintro e w1 ⟨rfl, hb1⟩; have hk1 := LK3.step (LK3.start _ _ _ _ _ _ _ _ _ _) hb1; obtain ⟨k0, k1, k2, k3, k4, k5, k6, k7, k8, z0, z1, z2, y0, y1, y2, x0, x1, x2⟩ := hk1.facts)
      | (go_at_call 11; refine (HF.out w1 hk1.low).mono ?_; rintro e w2 ⟨rfl, hb2⟩; have hk2 := hk1.step hb2; obtain ⟨k0, k1, k2, k3, k4, k5, k6, k7, k8, z0, z1, z2, y0, y1, y2, x0, x1, x2⟩ := hk2.facts))
    go_cut [7, 8] (fun s7 s8 W => ∃ g7 g8 : Nat, s7 = .pointer (some ⟨g7, 0, none⟩) ∧ s8 = .pointer (some ⟨g8, 0, none⟩) ∧ Below w2.heap.size w2 W ∧ Bk W g7 26 [.int .i64 f, .int .i64 x, .int .i64 n] ∧ Bk W g8 26 [.int .i64 g, .int .i64 y, .int .i64 m])
    case first =>
      clear hb1 hb2
      go_region
      all_goals (go_wp2_with fail; go_meet)
      all_goals first
        | exact ⟨_, _, rfl, rfl, ((low_alloc w2 _).alloc (by simp) _).drew, (Bk.new w2 _ [_, _, _]).alloc _, Bk.newAt (w2.alloc _) _ [_, _, _] (by simp)⟩
        | exact ⟨_, _, rfl, rfl, ((low_alloc w2 _).alloc (by simp) _).drew, Bk.newAt (w2.alloc _) _ [_, _, _] (by simp), (Bk.new w2 _ [_, _, _]).alloc _⟩
    case rest =>
      obtain ⟨g7, g8, rfl, rfl, hl7, B7, B8⟩ := hcut
      have hkr := hk2.step hl7
      have hk3 : LK5 w (.slice a ps.length cap) f x n g y m (.slice aa xs.length ca) (.slice ab ys.length cb) g7 g8 wc := ((Keeps.less (L' := [(w.heap.size, 24, [.slice a ps.length cap]), (w.heap.size + 1 + 1, 55, [.slice aa xs.length ca, .slice ab ys.length cb])]) hkr (by simp)).more B7 |>.more B8).less (by simp)
      clear hb1 hb2 hk1 hk2 hkr hl7 B7 B8 HF k0 k1 k2 k3 k4 k5 k6 k7 k8 z0 z1 z2 y0 y1 y2 x0 x1 x2
      obtain ⟨k0, k1, k2, k3, k4, k5, k6, z0, z1, z2, z3, y0, y1, y2, y3, x0, x1, x2, x3⟩ := hk3.facts
      obtain ⟨wd, hwd⟩ : ∃ wd, wd = wc := ⟨_, rfl⟩
      subst hwd
      go_wp2_with fail
      go_cut [9, 10] (fun s7 s8 W => Got wd (Fr.write ps f x xs) s7 s8 W)
      case first =>
        have kd0 : wd.drew.cell? ⟨w.heap.size, 0, none⟩ = some (.slice a ps.length cap) := k0
        have kd1 : wd.drew.cell? ⟨g7, 0, none⟩ = some (.int .i64 f) := k3
        have kd2 : wd.drew.cell? ⟨g7, 1, none⟩ = some (.int .i64 x) := k4
        have kd3 : wd.drew.cell? ⟨w.heap.size + 1 + 1, 0, none⟩ = some (.slice aa xs.length ca) := k1
        clear H2
        go_region_held3 (fun w' => w'.cell? ⟨w.heap.size, 0, none⟩ = some (.slice a ps.length cap) ∧ w'.cell? ⟨g7, 0, none⟩ = some (.int .i64 f) ∧ w'.cell? ⟨g7, 1, none⟩ = some (.int .i64 x) ∧ w'.cell? ⟨w.heap.size + 1 + 1, 0, none⟩ = some (.slice aa xs.length ca)) (first | go_keep | exact ⟨by assumption, by assumption, by assumption, by assumption⟩) ((first
          | (go_at_call 13; refine (to_w _ _ _ _).mono ?_; rintro e w3 ⟨rfl, hb3⟩; have hl3 := stepAny (by first | exact low_drew wd | exact low_adrew wd _) hb3; have hk3 := hk3.step hl3; obtain ⟨k03, k13, k23, k33, k43, k53, k63, z03, z13, z23, z33, y03, y13, y23, y33, x03, x13, x23, x33⟩ := hk3.facts; obtain ⟨hc3, hf3⟩ := bcell hb3; (try have hz3 : wd.heap.size < w3.heap.size := (by have := hb3.size; simp at this; omega)))
          | (go_at_call 12; refine (H1.out _ (by first | exact hk3.low | exact (hk3.alloc _).low)).mono ?_; rintro e w4 ⟨u4, rfl, hr4, hb4⟩; obtain ⟨a4, n4, c4, rfl⟩ := hr4.form; have hl4 := stepAny (by first | exact Below.refl _ w3 | exact low_alloc w3 _) hb4; have hk4 := hk3.step hl4; obtain ⟨k04, k14, k24, k34, k44, k54, k64, z04, z14, z24, z34, y04, y14, y24, y34, x04, x14, x24, x34⟩ := hk4.facts; obtain ⟨hc4, hf4⟩ := bcell hb4; (try have hz4 : wd.heap.size < w4.heap.size := (by have := hb4.size; simp at this; omega)); (try have hz5 : w3.heap.size < w4.heap.size := (by have := hb4.size; simp at this; omega)))))
        all_goals (go_wp2_with fail; go_meet)
        all_goals first
          | exact Got.new (stepAny hl3 hl4) hr4 hl3.size
          | exact Got.old (stepAny hl3 hl4) hr4 (by simp; have := hl3.size; omega) hl3.size (by simp) (Bk.newAt w3 _ [_] rfl) hb4
          | exact Got.old (stepAny hl3 hl4) hr4 hl3.size (Nat.le_refl _) hz3 (Bk.newAt wd _ [_] rfl) (stepAny (stepAny (low_drew _) hb3) hl4)
      case rest =>
        obtain ⟨g9, a9, n9, c9, rfl, rfl, hl9, hg9, B9, R9⟩ := hcut
        have hk4 := hk3.step hl9
        have HR9 := Lib.hid R9
        clear R9 k0 k1 k2 k3 k4 k5 k6 z0 z1 z2 z3 y0 y1 y2 y3 x0 x1 x2 x3 hk3 hl9 H1
        obtain ⟨k0, k1, k2, k3, k4, k5, k6, z0, z1, z2, z3, y0, y1, y2, y3, x0, x1, x2, x3⟩ := hk4.facts
        obtain ⟨we, hwe⟩ : ∃ we, we = wc := ⟨_, rfl⟩
        subst hwe
        go_wp2_with fail
        go_cut [11, 12] (fun s7 s8 W => Got we (Fr.write ps g y ys) s7 s8 W)
        case first =>
          have kd0 : we.drew.cell? ⟨w.heap.size, 0, none⟩ = some (.slice a ps.length cap) := k0
          have kd1 : we.drew.cell? ⟨g8, 0, none⟩ = some (.int .i64 g) := k5
          have kd2 : we.drew.cell? ⟨g8, 1, none⟩ = some (.int .i64 y) := k6
          have kd3 : we.drew.cell? ⟨w.heap.size + 1 + 1, 1, none⟩ = some (.slice ab ys.length cb) := k2
          go_region_held3 (fun w' => w'.cell? ⟨w.heap.size, 0, none⟩ = some (.slice a ps.length cap) ∧ w'.cell? ⟨g8, 0, none⟩ = some (.int .i64 g) ∧ w'.cell? ⟨g8, 1, none⟩ = some (.int .i64 y) ∧ w'.cell? ⟨w.heap.size + 1 + 1, 1, none⟩ = some (.slice ab ys.length cb)) (first | go_keep | exact ⟨by assumption, by assumption, by assumption, by assumption⟩) ((first
            | (go_at_call 13; refine (to_w _ _ _ _).mono ?_; rintro e w3 ⟨rfl, hb3⟩; have hl3 := stepAny (by first | exact low_drew we | exact low_adrew we _) hb3; have hk3 := hk4.step hl3; obtain ⟨k03, k13, k23, k33, k43, k53, k63, z03, z13, z23, z33, y03, y13, y23, y33, x03, x13, x23, x33⟩ := hk3.facts; obtain ⟨hc3, hf3⟩ := bcell hb3; (try have hz3 : we.heap.size < w3.heap.size := (by have := hb3.size; simp at this; omega)))
            | (go_at_call 12; refine (H2.out _ (by first | exact hk3.low | exact (hk3.alloc _).low)).mono ?_; rintro e w4 ⟨u4, rfl, hr4, hb4⟩; obtain ⟨a4, n4, c4, rfl⟩ := hr4.form; have hl4 := stepAny (by first | exact Below.refl _ w3 | exact low_alloc w3 _) hb4; have hk4 := hk3.step hl4; obtain ⟨k04, k14, k24, k34, k44, k54, k64, z04, z14, z24, z34, y04, y14, y24, y34, x04, x14, x24, x34⟩ := hk4.facts; obtain ⟨hc4, hf4⟩ := bcell hb4; (try have hz4 : we.heap.size < w4.heap.size := (by have := hb4.size; simp at this; omega)); (try have hz5 : w3.heap.size < w4.heap.size := (by have := hb4.size; simp at this; omega)))))
          all_goals (go_wp2_with fail; go_meet)
          all_goals first
            | exact Got.new (stepAny hl3 hl4) hr4 hl3.size
            | exact Got.old (stepAny hl3 hl4) hr4 (by simp; have := hl3.size; omega) hl3.size (by simp) (Bk.newAt w3 _ [_] rfl) hb4
            | exact Got.old (stepAny hl3 hl4) hr4 hl3.size (Nat.le_refl _) hz3 (Bk.newAt we _ [_] rfl) (stepAny (stepAny (low_drew _) hb3) hl4)
        case rest =>
          obtain ⟨g11, a11, n11, c11, rfl, rfl, hl11, hg11, B11, R11⟩ := hcut
          have hk5 := hk4.step hl11
          have B9f := B9.below hl11 B9.lt
          have HR9f := Lib.hid (HR9.out.below hl11 (Nat.le_refl _))
          have HR11 := Lib.hid R11
          clear R11 k0 k1 k2 k3 k4 k5 k6 z0 z1 z2 z3 y0 y1 y2 y3 x0 x1 x2 x3 hk4 hl11 H2 B9 HR9
          obtain ⟨k0, k1, k2, k3, k4, k5, k6, z0, z1, z2, z3, y0, y1, y2, y3, x0, x1, x2, x3⟩ := hk5.facts
          have k9 := B9f.cell 0
          have k11 := B11.cell 0
          simp only [List.getElem?_cons_zero] at k9 k11
          by_cases hz1 : (Fr.write ps f x xs).2 = 0
          · by_cases hz2 : (Fr.write ps g y ys).2 = 0
            · have hc1 : Fr.chk ps f x xs.length = 0 := by
                unfold Fr.write at hz1; split at hz1
                · assumption
                · exact hz1
              have hc2 : Fr.chk ps g y ys.length = 0 := by
                unfold Fr.write at hz2; split at hz2
                · assumption
                · exact hz2
              obtain ⟨r1, r2, r3, r4, r5, r6⟩ := Fr.okR_iff.1 (Fr.chk_zero hc1).2
              obtain ⟨s1, s2, s3, s4, s5, s6⟩ := Fr.okR_iff.1 (Fr.chk_zero hc2).2
              obtain ⟨F, rfl⟩ := Int.eq_ofNat_of_zero_le r1
              obtain ⟨X, rfl⟩ := Int.eq_ofNat_of_zero_le r3
              obtain ⟨G, rfl⟩ := Int.eq_ofNat_of_zero_le s1
              obtain ⟨Y, rfl⟩ := Int.eq_ofNat_of_zero_le s3
              have H3 := Lib.hid (fun w' (hbl : Below wc.heap.size wc w') => fwrite_w G Y (HR9f.out.pg.below hbl (Nat.le_refl _)) (HB.out.below (hk5.step hbl).low (Nat.le_refl _)))
              have H4 := Lib.hid (fun w' (hbl : Below wc.heap.size wc w') => fwrite_w F X (HR11.out.pg.below hbl (Nat.le_refl _)) (HA.out.below (hk5.step hbl).low (Nat.le_refl _)))
              have e3 : (Fr.write (Fr.write ps F X xs).1 G Y ys).2 = 0 := Fr.write_err0 (Fr.write_again hc1 hc2)
              have e4 : (Fr.write (Fr.write ps G Y ys).1 F X xs).2 = 0 := Fr.write_err0 (Fr.write_again hc2 hc1)
              have HC := Lib.hid (Fr.write_comm hc1 hc2)
              have HLS : Hid (F = G → X = Y → xs.length = ys.length → (Fr.write (Fr.write ps F X xs).1 G Y ys) = Fr.write ps G Y ys ∧ (Fr.write (Fr.write ps G Y ys).1 F X xs) = Fr.write ps F X xs) := by
                rintro rfl rfl h
                exact ⟨Fr.write_last hc1 hc2 h, Fr.write_last hc2 hc1 h.symm⟩
              clear hc1 hc2
              generalize Fr.write (Fr.write ps F X xs).1 G Y ys = t3 at *
              generalize Fr.write (Fr.write ps G Y ys).1 F X xs = t4 at *
              generalize Fr.write ps F X xs = t1 at *
              generalize Fr.write ps G Y ys = t2 at *
              obtain ⟨q3, d3⟩ := t3
              obtain rfl : d3 = 0 := e3
              obtain ⟨q4, d4⟩ := t4
              obtain rfl : d4 = 0 := e4
              obtain ⟨q1, d1⟩ := t1
              obtain rfl : d1 = 0 := hz1
              obtain ⟨q2, d2⟩ := t2
              obtain rfl : d2 = 0 := hz2
              have g9l := B9f.lt
              have g11l := B11.lt
              skip
              go_upto_region 12 with (first
                | (go_at_call 12; (with_reducible refine (H3.out wc (Below.refl _ _)).mono ?_); rintro e w5 ⟨u5, rfl, hr5, hb5⟩; obtain ⟨a13, n13, c13, rfl⟩ := hr5.form; have HR5 := Lib.hid hr5; clear hr5; have hk6 := hk5.step hb5; obtain ⟨k05, k15, k25, k35, k45, k55, k65, z05, z15, z25, z35, y05, y15, y25, y35, x05, x15, x25, x35⟩ := hk6.facts; have k95 := (B9f.below hb5 g9l).cell 0; have k115 := (B11.below hb5 g11l).cell 0; simp only [List.getElem?_cons_zero] at k95 k115; have g9l5 := Nat.lt_of_lt_of_le g9l hb5.size; have g11l5 := Nat.lt_of_lt_of_le g11l hb5.size)
                | (go_at_call 12; (with_reducible refine (H4.out _ (stepAny hb5 (low_alloc w5 _))).mono ?_); rintro e w6 ⟨u6, rfl, hr6, hb6⟩; obtain ⟨a15, n15, c15, rfl⟩ := hr6.form; have HR6 := Lib.hid hr6; clear hr6; have hl6 := stepAny (low_alloc w5 (.cells #[.slice a13 n13 c13] 30 (0, 0))) hb6; have hk7 := hk6.step hl6; obtain ⟨k06, k16, k26, k36, k46, k56, k66, z06, z16, z26, z36, y06, y16, y26, y36, x06, x16, x26, x36⟩ := hk7.facts; have hl56 := stepAny hb5 hl6; have k96 := (B9f.below hl56 g9l).cell 0; have k116 := (B11.below hl56 g11l).cell 0; have k136 := ((Bk.newAt w5 30 [.slice a13 n13 c13] rfl).below hb6 (by simp)).cell 0; simp only [List.getElem?_cons_zero] at k96 k116 k136; have g9l6 := Nat.lt_of_lt_of_le g9l hl56.size; have g11l6 := Nat.lt_of_lt_of_le g11l hl56.size; have g13l6 : w5.heap.size < w6.heap.size := (by have := hb6.size; simp at this; omega)))
              have P3 := HR5.out.pg.below (stepAny hl6 (low_alloc w6 (.cells #[.slice a15 n15 c15] 30 (0, 0)))) (Nat.le_refl _)
              have P4 := HR6.out.pg.below (low_alloc w6 (.cells #[.slice a15 n15 c15] 30 (0, 0))) (Nat.le_refl _)
              have hl67 := stepAny hl56 (low_alloc w6 (.cells #[.slice a15 n15 c15] 30 (0, 0)))
              have P1 := HR9f.out.pg.below hl67 (Nat.le_refl _)
              have P2 := HR11.out.pg.below hl67 (Nat.le_refl _)
              have hk8 := hk7.step (low_alloc w6 (.cells #[.slice a15 n15 c15] 30 (0, 0)))
              have k97 := (B9f.below hl67 g9l).cell 0
              have k117 := (B11.below hl67 g11l).cell 0
              have k137 := ((Bk.newAt w5 30 [.slice a13 n13 c13] rfl).below (stepAny hb6 (low_alloc w6 (.cells #[.slice a15 n15 c15] 30 (0, 0)))) (by simp)).cell 0
              have k157 := (Bk.newAt w6 30 [.slice a15 n15 c15] rfl).cell 0
              simp only [List.getElem?_cons_zero] at k97 k117 k137 k157
              generalize w6.alloc (.cells #[.slice a15 n15 c15] 30 (0, 0)) = w7 at *
              generalize w6.heap.size = g15 at *
              generalize w5.heap.size = g13 at *
              have HP1 := Lib.hid P1
              have HP2 := Lib.hid P2
              have HP3 := Lib.hid P3
              have HP4 := Lib.hid P4
              clear P1 P2 P3 P4 HR5 HR6 HR9f HR11 hb5 hb6 hl6 hl56 hl67 hk5 hk6 hk7 H3 H4 HV HA HB B9f B11
              clear k0 k1 k2 k3 k4 k5 k6 z0 z1 z2 z3 y0 y1 y2 y3 x0 x1 x2 x3 k05 k15 k25 k35 k45 k55 k65 z05 z15 z25 z35 y05 y15 y25 y35 x05 x15 x25 x35 k06 k16 k26 k36 k46 k56 k66 z06 z16 z26 z36 y06 y16 y26 y36 x06 x16 x26 x36 k95 k115 k96 k116 k136 g9l g11l g9l5 g11l5 g9l6 g11l6 g13l6 k9 k11
              obtain ⟨k0, k1, k2, k3, k4, k5, k6, z0, z1, z2, z3, y0, y1, y2, y3, x0, x1, x2, x3⟩ := hk8.facts
              by_cases hFG : F = G
              · have b1 : ((F : Int) != (G : Int)) = false := by rw [hFG]; simp
                by_cases hX1 : X + xs.length ≤ Y
                · have hx := HC.out (.inr (.inl hX1))
                  injection hx with hx _
                  subst hx
                  have HE := Lib.hid (fequal_t HP3.out HP4.out)
                  have b2 : ((X : Int) + (xs.length : Int)) ≤ (Y : Int) := by omega
                  clear hFG HC HLS
                  go_wp2_with (go_at_call 29; refine HE.out.mono ?_; rintro e w9 ⟨rfl, hb9⟩)
                  go_ret
                  exact ⟨rfl, (hk8.step hb9).low⟩
                · have b2 : ¬ ((X : Int) + (xs.length : Int)) ≤ (Y : Int) := by omega
                  by_cases hX2 : Y + ys.length ≤ X
                  · have hx := HC.out (.inr (.inr hX2))
                    injection hx with hx _
                    subst hx
                    have HE := Lib.hid (fequal_t HP3.out HP4.out)
                    have b3 : ((Y : Int) + (ys.length : Int)) ≤ (X : Int) := by omega
                    clear hFG HC HLS
                    go_wp2_with (go_at_call 29; refine HE.out.mono ?_; rintro e w9 ⟨rfl, hb9⟩)
                    go_ret
                    exact ⟨rfl, (hk8.step hb9).low⟩
                  · have b3 : ¬ ((Y : Int) + (ys.length : Int)) ≤ (X : Int) := by omega
                    by_cases hXY : X = Y
                    · have b4 : ((X : Int) != (Y : Int)) = false := by rw [hXY]; simp
                      by_cases hlen : xs.length = ys.length
                      · have b5 : ((xs.length : Int) != (ys.length : Int)) = false := by rw [hlen]; simp
                        obtain ⟨hx, hy⟩ := HLS.out hFG hXY hlen
                        injection hx with hx _
                        injection hy with hy _
                        subst hx hy
                        have HE1 := Lib.hid (fequal_t HP3.out HP2.out)
                        have HE2 := Lib.hid (fun W (hW : Below w7.heap.size w7 W) => fequal_t (HP4.out.below hW (Nat.le_refl _)) (HP1.out.below hW (Nat.le_refl _)))
                        have HQ := Lib.hid (fun W (hW : Below w7.heap.size w7 W) => (show W.cell? ⟨g15, 0, none⟩ = some (.slice a15 n15 c15) ∧ W.cell? ⟨g9, 0, none⟩ = some (.slice a9 n9 c9) from ⟨(hW.cell (p := ⟨g15, 0, none⟩) (World.block_lt_of_cell? w7 _ k157)).trans k157, (hW.cell (p := ⟨g9, 0, none⟩) (World.block_lt_of_cell? w7 _ k97)).trans k97⟩))
                        clear hFG HC HLS hXY hlen
                        go_wp2_with (first
                          | (go_at_call 29; (with_reducible refine HE1.out.mono ?_); rintro e w9 ⟨rfl, hb9⟩; obtain ⟨m15, m9⟩ := HQ.out w9 hb9)
                          | (go_at_call 29; (with_reducible refine (HE2.out w9 hb9).mono ?_); rintro e w10 ⟨rfl, hb10⟩))
                        go_ret
                        exact ⟨rfl, ((hk8.step hb9).step hb10).low⟩
                      · have b5 : ((xs.length : Int) != (ys.length : Int)) = true := by rw [bne_iff_ne]; omega
                        clear hFG HC HLS hXY hlen
                        go_wp2
                        go_ret
                        exact ⟨rfl, hk8.low⟩
                    · have b4 : ((X : Int) != (Y : Int)) = true := by rw [bne_iff_ne]; omega
                      clear hFG HC HLS hXY
                      go_wp2
                      go_ret
                      exact ⟨rfl, hk8.low⟩
              · have b1 : ((F : Int) != (G : Int)) = true := by rw [bne_iff_ne]; omega
                have hx := HC.out (.inl hFG)
                injection hx with hx _
                subst hx
                have HE := Lib.hid (fequal_t HP3.out HP4.out)
                clear hFG HC HLS
                go_wp2_with (go_at_call 29; refine HE.out.mono ?_; rintro e w9 ⟨rfl, hb9⟩)
                go_ret
                exact ⟨rfl, (hk8.step hb9).low⟩
            · have hne2 : ((Fr.write ps g y ys).2 != 0) = true := by rw [bne_iff_ne]; exact hz2
              rw [hz1]
              generalize (Fr.write ps g y ys).2 = c2 at *
              clear hz1 hz2
              go_wp2
              go_ret
              exact ⟨rfl, hk5.low⟩
          · have hne1 : ((Fr.write ps f x xs).2 != 0) = true := by rw [bne_iff_ne]; exact hz1
            generalize (Fr.write ps f x xs).2 = c1 at *
            clear hz1
            go_wp2
            go_ret
            exact ⟨rfl, hk5.low⟩
  · by_cases hfew : Fr.few ps = true
    · rw [hfew] at HF
      have hno : 300 < xs.length ∨ (xs.length ≤ 300 ∧ 300 < ys.length) := by
        by_cases h1 : xs.length ≤ 300
        · by_cases h2 : ys.length ≤ 300
          · exact absurd ⟨hfew, h1, h2⟩ hgo
          · omega
        · omega
      clear hfew hv hgo
      rcases hno with h | ⟨h, h'⟩
      · have f1 : (300 : Int) < (xs.length : Int) := by omega
        go_enter Try.func7, Try.ntmps7
        go_wp2_with (first
          | (go_at_call 10; refine (awake_w w2).mono ?_; rintro e w3 ⟨rfl, hb3⟩)
          | (go_at_call 10; refine (awake_w _).mono ?_; rintro e w1 ⟨rfl, hb1⟩; have hk1 := LK3.step (LK3.start _ _ _ _ _ _ _ _ _ _) hb1; obtain ⟨k0, k1, k2, k3, k4, k5, k6, k7, k8, z0, z1, z2, y0, y1, y2, x0, x1, x2⟩ := hk1.facts)
          | (go_at_call 11; refine (HF.out w1 hk1.low).mono ?_; rintro e w2 ⟨rfl, hb2⟩; have hk2 := hk1.step hb2; obtain ⟨k0, k1, k2, k3, k4, k5, k6, k7, k8, z0, z1, z2, y0, y1, y2, x0, x1, x2⟩ := hk2.facts))
        go_ret
        exact ⟨rfl, (hk2.step hb3).low⟩
      · have f1 : (xs.length : Int) ≤ 300 := by omega
        have f2 : (300 : Int) < (ys.length : Int) := by omega
        go_enter Try.func7, Try.ntmps7
        go_wp2_with (first
          | (go_at_call 10; refine (awake_w w2).mono ?_; rintro e w3 ⟨rfl, hb3⟩)
          | (go_at_call 10; refine (awake_w _).mono ?_; rintro e w1 ⟨rfl, hb1⟩; have hk1 := LK3.step (LK3.start _ _ _ _ _ _ _ _ _ _) hb1; obtain ⟨k0, k1, k2, k3, k4, k5, k6, k7, k8, z0, z1, z2, y0, y1, y2, x0, x1, x2⟩ := hk1.facts)
          | (go_at_call 11; refine (HF.out w1 hk1.low).mono ?_; rintro e w2 ⟨rfl, hb2⟩; have hk2 := hk1.step hb2; obtain ⟨k0, k1, k2, k3, k4, k5, k6, k7, k8, z0, z1, z2, y0, y1, y2, x0, x1, x2⟩ := hk2.facts))
        go_ret
        exact ⟨rfl, (hk2.step hb3).low⟩
    · have hfew' : Fr.few ps = false := by simpa using hfew
      rw [hfew'] at HF
      clear hfew hfew' hv hgo
      go_enter Try.func7, Try.ntmps7
      go_wp2_with (first
        | (go_at_call 10; refine (awake_w w2).mono ?_; rintro e w3 ⟨rfl, hb3⟩)
        | (go_at_call 10; refine (awake_w _).mono ?_; rintro e w1 ⟨rfl, hb1⟩; have hk1 := LK3.step (LK3.start _ _ _ _ _ _ _ _ _ _) hb1; obtain ⟨k0, k1, k2, k3, k4, k5, k6, k7, k8, z0, z1, z2, y0, y1, y2, x0, x1, x2⟩ := hk1.facts)
        | (go_at_call 11; refine (HF.out w1 hk1.low).mono ?_; rintro e w2 ⟨rfl, hb2⟩; have hk2 := hk1.step hb2; obtain ⟨k0, k1, k2, k3, k4, k5, k6, k7, k8, z0, z1, z2, y0, y1, y2, x0, x1, x2⟩ := hk2.facts))
      go_ret
      exact ⟨rfl, (hk2.step hb3).low⟩
end Go.Proofs.Ytkgheilaleekdaa
