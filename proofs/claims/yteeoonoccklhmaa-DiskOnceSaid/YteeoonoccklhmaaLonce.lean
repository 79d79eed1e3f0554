/-
  The walk of DiskOnce (printed by gen/mk11once.py).
-/
import Derived.Test.YteeoonoccklhmaaLold
import Derived.Test.YteeoonoccklhmaaEqd
namespace Dk
/-- A command given again while it is open changes nothing. -/
theorem give_same {bs : List (List UInt8)} {t co cp l lt la q p : Int} {cd ld xs : List UInt8} (hv : valid (bs, (true, (t, co, cp, cd), l, (lt, la, ld))) = true) :
    give (bs, (true, (t, co, cp, cd), l, (lt, la, ld))) (t, q, p, xs) = ((bs, (true, (t, co, cp, cd), l, (lt, la, ld))), 0) := by
  have hp := (validC_open.1 (valid_iff.1 hv).2.1).2.1
  unfold give
  rw [hv, hp]
  simp [top]
/-- A command that was answered is opened anew, and has the same answer at the next tick. -/
theorem give_again {bs : List (List UInt8)} {t an q p : Int} {d xs : List UInt8} (hv : valid (bs, (false, zcm, 0, (t, an, d))) = true) (hp : prop t = true) :
    give (bs, (false, (0, 0, 0, []), 0, (t, an, d))) (t, q, p, xs) = ((bs, (true, (t, 0, 0, []), 1, (t, an, d))), 0) := by
  have hv' : valid (bs, (false, ((0 : Int), (0 : Int), (0 : Int), ([] : List UInt8)), (0 : Int), (t, an, d))) = true := hv
  unfold give
  rw [hv', hp]
  simp [top]
theorem tick_again {bs : List (List UInt8)} {t an : Int} {d : List UInt8} (hv : valid (bs, (false, zcm, 0, (t, an, d))) = true) (hp : prop t = true) :
    tick (bs, (true, (t, 0, 0, []), 1, (t, an, d))) = ((bs, (false, (0, 0, 0, []), 0, (t, an, d))), [(t, an, d)]) := by
  obtain ⟨h0, -, h1⟩ := valid_iff.1 hv
  have h2 : valid (bs, (true, (t, 0, 0, []), 1, (t, an, d))) = true := valid_iff.2 ⟨h0, validC_open.2 ⟨.inr hp, hp, Int.le_refl _, by omega, by omega⟩, h1⟩
  unfold tick
  simp [h2, zcm]
end Dk
namespace Go.Proofs.Yteeoonoccklhmaa
open Go.RowKit

set_option maxRecDepth 100000 in
set_option maxHeartbeats 8000000 in
theorem lonce_w {w : World} {v0 v1 v2 : Value} (h0 : IsDisk w v0) (h1 : IsCmd w v1) (h2 : IsCmd w v2) :
    Calls Try.prog 6 #[v0, v1, v2] w fun e w' => e = .returned (.bool true) ∧ Below w.heap.size w w' := by
  obtain ⟨o, ct, co, cp, l, lt, la, ub, uc, ul, bs, cd, ld, rfl, hdr, -⟩ := h0
  obtain ⟨t, q, p, ux, xs, rfl, hx, -⟩ := h1
  obtain ⟨ot, oq, op, uy, ys, rfl, hy, -⟩ := h2
  obtain ⟨es, hde⟩ := hdr.de
  obtain ⟨aub, cub, hub, -⟩ := id hde.r
  obtain ⟨auc, cuc, huc, -⟩ := id hde.c
  obtain ⟨aul, cul, hul, -⟩ := id hde.l
  obtain ⟨ax, cx, hux, -⟩ := id hx
  obtain ⟨ay, cy, huy, -⟩ := id hy
  obtain ⟨nb, hnb⟩ : ∃ n, n = es.length := ⟨_, rfl⟩
  rw [← hnb] at hub
  subst hub huc hul hux huy
  have HNB := Lib.hid hnb
  have HDE := Lib.hid hde
  have HX := Lib.hid hx
  have HY := Lib.hid hy
  have hk0 : Keeps w [((w.heap.size + 1 + 1), 25, [.int .i64 ot, .int .i64 oq, .int .i64 op, .slice ay ys.length cy]), (w.heap.size + 1, 25, [.int .i64 t, .int .i64 q, .int .i64 p, .slice ax xs.length cx]), (w.heap.size, 31, [.slice aub nb cub, .bool o, .int .i64 ct, .int .i64 co, .int .i64 cp, .slice auc cd.length cuc, .int .i64 l, .int .i64 lt, .int .i64 la, .slice aul ld.length cul])] (((w.alloc (.cells #[.slice aub nb cub, .bool o, .int .i64 ct, .int .i64 co, .int .i64 cp, .slice auc cd.length cuc, .int .i64 l, .int .i64 lt, .int .i64 la, .slice aul ld.length cul] 31 (0, 0))).alloc (.cells #[.int .i64 t, .int .i64 q, .int .i64 p, .slice ax xs.length cx] 25 (0, 0))).alloc (.cells #[.int .i64 ot, .int .i64 oq, .int .i64 op, .slice ay ys.length cy] 25 (0, 0))) := (((Keeps.start w).add 31 [.slice aub nb cub, .bool o, .int .i64 ct, .int .i64 co, .int .i64 cp, .slice auc cd.length cuc, .int .i64 l, .int .i64 lt, .int .i64 la, .slice aul ld.length cul] rfl).add 25 [.int .i64 t, .int .i64 q, .int .i64 p, .slice ax xs.length cx] (by simp)).add 25 [.int .i64 ot, .int .i64 oq, .int .i64 op, .slice ay ys.length cy] (by simp)
  have HC0 : Hid (∀ W, Keeps w [((w.heap.size + 1 + 1), 25, [.int .i64 ot, .int .i64 oq, .int .i64 op, .slice ay ys.length cy]), (w.heap.size + 1, 25, [.int .i64 t, .int .i64 q, .int .i64 p, .slice ax xs.length cx]), (w.heap.size, 31, [.slice aub nb cub, .bool o, .int .i64 ct, .int .i64 co, .int .i64 cp, .slice auc cd.length cuc, .int .i64 l, .int .i64 lt, .int .i64 la, .slice aul ld.length cul])] W → ((W.cell? ⟨w.heap.size, 0, none⟩ = some (.slice aub nb cub) ∧ W.cell? ⟨w.heap.size, 1, none⟩ = some (.bool o) ∧ W.cell? ⟨w.heap.size, 2, none⟩ = some (.int .i64 ct) ∧ W.cell? ⟨w.heap.size, 3, none⟩ = some (.int .i64 co) ∧ W.cell? ⟨w.heap.size, 4, none⟩ = some (.int .i64 cp) ∧ W.cell? ⟨w.heap.size, 5, none⟩ = some (.slice auc cd.length cuc) ∧ W.cell? ⟨w.heap.size, 6, none⟩ = some (.int .i64 l) ∧ W.cell? ⟨w.heap.size, 7, none⟩ = some (.int .i64 lt) ∧ W.cell? ⟨w.heap.size, 8, none⟩ = some (.int .i64 la) ∧ W.cell? ⟨w.heap.size, 9, none⟩ = some (.slice aul ld.length cul)) ∧ (W.cell? ⟨(w.heap.size + 1), 0, none⟩ = some (.int .i64 t) ∧ W.cell? ⟨(w.heap.size + 1), 1, none⟩ = some (.int .i64 q) ∧ W.cell? ⟨(w.heap.size + 1), 2, none⟩ = some (.int .i64 p) ∧ W.cell? ⟨(w.heap.size + 1), 3, none⟩ = some (.slice ax xs.length cx))) ∧ (W.cell? ⟨(w.heap.size + 1 + 1), 0, none⟩ = some (.int .i64 ot) ∧ W.cell? ⟨(w.heap.size + 1 + 1), 1, none⟩ = some (.int .i64 oq) ∧ W.cell? ⟨(w.heap.size + 1 + 1), 2, none⟩ = some (.int .i64 op) ∧ W.cell? ⟨(w.heap.size + 1 + 1), 3, none⟩ = some (.slice ay ys.length cy))) := fun W hW => by
    have e2 := hW.2 _ (.head _)
    have e1 := hW.2 _ (.tail _ (.head _))
    have e0 := hW.2 _ (.tail _ (.tail _ (.head _)))
    exact ⟨⟨⟨e0.cell 0, e0.cell 1, e0.cell 2, e0.cell 3, e0.cell 4, e0.cell 5, e0.cell 6, e0.cell 7, e0.cell 8, e0.cell 9⟩, e1.cell 0, e1.cell 1, e1.cell 2, e1.cell 3⟩, e2.cell 0, e2.cell 1, e2.cell 2, e2.cell 3⟩
  have HF : Hid (∀ W, Below w.heap.size w W → Calls Try.prog 10 #[.agg #[.slice aub nb cub, .bool o, .int .i64 ct, .int .i64 co, .int .i64 cp, .slice auc cd.length cuc, .int .i64 l, .int .i64 lt, .int .i64 la, .slice aul ld.length cul], .agg #[.int .i64 t, .int .i64 q, .int .i64 p, .slice ax xs.length cx]] W fun e w' => e = .returned (.bool (Dk.few (bs, (o, (ct, co, cp, cd), l, (lt, la, ld))) && decide (xs.length ≤ 300))) ∧ Below W.heap.size W w') := fun W hW => lfew_w o ct co cp l lt la t q p (hdr.below hW (Nat.le_refl _)) (hx.below hW (Nat.le_refl _))
  have HK0 := Lib.hid hk0
  clear hk0 hdr hde hx hnb hy
  cases hfw : (Dk.few (bs, (o, (ct, co, cp, cd), l, (lt, la, ld))) && decide (xs.length ≤ 300)) with
  | false =>
    rw [hfw] at HF
    clear hfw
    go_enter Try.func6, Try.ntmps6
    go_wp2_with (first
      | (go_at_call 10; (with_reducible refine (HF.out _ hk1.lo).mono ?_); rintro e w2 ⟨rfl, hb2⟩; have hk2 := hk1.step hb2; have tok := True.intro)
      | (go_at_call 9; have _t := tok; refine (awake_w w2).mono ?_; rintro e w3 ⟨rfl, hb3⟩)
      | (go_at_call 9; refine (awake_w _).mono ?_; rintro e w1 ⟨rfl, hb1⟩; have hk1 := HK0.out.step hb1; obtain ⟨⟨⟨p0, p1, p2, p3, p4, p5, p6, p7, p8, p9⟩, y0, y1, y2, y3⟩, g0, g1, g2, g3⟩ := HC0.out _ hk1))
    go_ret
    exact ⟨rfl, (hk2.step hb3).1⟩
  | true =>
    rw [hfw] at HF
    rw [Bool.and_eq_true, decide_eq_true_eq] at hfw
    obtain ⟨hf1, h300⟩ := hfw
    obtain ⟨hz1, hz2, hz3⟩ := few_sized hf1
    clear hf1
    by_cases ht4 : ys.length ≤ 300
    rotate_left
    · have q1 : (300 : Int) < (ys.length : Int) := by omega
      clear ht4
      go_enter Try.func6, Try.ntmps6
      go_wp2_with (first
        | (go_at_call 10; (with_reducible refine (HF.out _ hk1.lo).mono ?_); rintro e w2 ⟨rfl, hb2⟩; have hk2 := hk1.step hb2; obtain ⟨-, z0, z1, z2, z3⟩ := HC0.out _ hk2; have tok := True.intro)
        | (go_at_call 9; have _t := tok; refine (awake_w w2).mono ?_; rintro e w3 ⟨rfl, hb3⟩)
        | (go_at_call 9; refine (awake_w _).mono ?_; rintro e w1 ⟨rfl, hb1⟩; have hk1 := HK0.out.step hb1; obtain ⟨⟨⟨p0, p1, p2, p3, p4, p5, p6, p7, p8, p9⟩, y0, y1, y2, y3⟩, g0, g1, g2, g3⟩ := HC0.out _ hk1))
      go_ret
      exact ⟨rfl, (hk2.step hb3).1⟩
    have q1 : ¬ (300 : Int) < (ys.length : Int) := by omega
    obtain ⟨⟨bs2, o2, ⟨ct2, co2, cp2, cd2⟩, l2, lt2, la2, ld2⟩, ec, hg⟩ : ∃ (s : Dk.St) (e : Int), Dk.give (bs, (o, (ct, co, cp, cd), l, (lt, la, ld))) (t, q, p, xs) = (s, e) := ⟨_, _, rfl⟩
    have HG := Lib.hid hg
    obtain ⟨n0, hn0⟩ : ∃ n, n = bs2.length := ⟨_, rfl⟩
    obtain ⟨n1, hn1⟩ : ∃ n, n = cd2.length := ⟨_, rfl⟩
    obtain ⟨n2, hn2⟩ : ∃ n, n = ld2.length := ⟨_, rfl⟩
    have HDO : Hid (∀ W, Below w.heap.size w W → Calls Try.prog 11 #[.agg #[.slice aub nb cub, .bool o, .int .i64 ct, .int .i64 co, .int .i64 cp, .slice auc cd.length cuc, .int .i64 l, .int .i64 lt, .int .i64 la, .slice aul ld.length cul], .agg #[.int .i64 t, .int .i64 q, .int .i64 p, .slice ax xs.length cx]] W fun e w' => ∃ a k c d r q' es2, e = .returned (.tuple #[.agg #[.slice a n0 k, .bool o2, .int .i64 ct2, .int .i64 co2, .int .i64 cp2, .slice c n1 d, .int .i64 l2, .int .i64 lt2, .int .i64 la2, .slice r n2 q'], .int .i64 ec]) ∧ Dw W.heap.size (fun x => w.heap.size ≤ x) w' (.slice a n0 k) (.slice c n1 d) (.slice r n2 q') es2 bs2 cd2 ld2 ∧ Below W.heap.size W w') := fun W hW =>
      do_f (X := fun x => w.heap.size ≤ x) o ct co cp l lt la t q p (HDE.out.below hW (Nat.le_refl _)) ((Av.start (X := fun x => w.heap.size ≤ x) (W := w) (P := fun W => ∀ i (h : i < es.length) (h' : i < bs.length), Sl eb W (et es[i]) bs[i]) (fun W' hk i h h' => (HDE.out.keep hk).e i h h') (fun x h => h)).below hW) (HX.out.below hW (Nat.le_refl _)) (by have := HDE.out.n; omega) (by omega) (by omega) (by omega) HG.out hn0.symm hn1.symm hn2.symm
    have HTO := Lib.hid (fun W => to_w o ct co cp l lt la aub auc aul nb cub cd.length cuc ld.length cul W)
    have HN0 := Lib.hid hn0
    have HN1 := Lib.hid hn1
    have HN2 := Lib.hid hn2
    clear hg hn0 hn1 hn2
    go_enter Try.func6, Try.ntmps6
    go_upto_region 4 with (first
      | (go_at_call 10; (with_reducible refine (HF.out _ hk1.lo).mono ?_); rintro e w2 ⟨rfl, hb2⟩; have hk2 := hk1.step hb2; obtain ⟨⟨-, y0, -⟩, z0, z1, z2, z3⟩ := HC0.out _ hk2; have zf := (hk2.2 _ (.head _)).frozen 0)
      | (go_at_call 9; refine (awake_w _).mono ?_; rintro e w1 ⟨rfl, hb1⟩; have hk1 := HK0.out.step hb1; obtain ⟨⟨⟨p0, p1, p2, p3, p4, p5, p6, p7, p8, p9⟩, y0', y1, y2, y3⟩, g0, g1, g2, g3⟩ := HC0.out _ hk1))
    have hkx : Keeps w [((w.heap.size + 1 + 1), 25, [.int .i64 t, .int .i64 oq, .int .i64 op, .slice ay ys.length cy]), (w.heap.size + 1, 25, [.int .i64 t, .int .i64 q, .int .i64 p, .slice ax xs.length cx]), (w.heap.size, 31, [.slice aub nb cub, .bool o, .int .i64 ct, .int .i64 co, .int .i64 cp, .slice auc cd.length cuc, .int .i64 l, .int .i64 lt, .int .i64 la, .slice aul ld.length cul])] (w2.setCell ⟨(w.heap.size + 1 + 1), 0, none⟩ (.int .i64 t)) :=
      ((hk2.less (L' := [(w.heap.size + 1, 25, [.int .i64 t, .int .i64 q, .int .i64 p, .slice ax xs.length cx]), (w.heap.size, 31, [.slice aub nb cub, .bool o, .int .i64 ct, .int .i64 co, .int .i64 cp, .slice auc cd.length cuc, .int .i64 l, .int .i64 lt, .int .i64 la, .slice aul ld.length cul])]) (fun e he => .tail _ he)).set (p := ⟨(w.heap.size + 1 + 1), 0, none⟩) (by simp; omega) (fun e he => by
        simp only [List.mem_cons, List.not_mem_nil, or_false] at he
        rcases he with rfl | rfl <;> (simp <;> omega)) _).more ((hk2.2 _ (.head _)).set 0 (.int .i64 t))
    clear p0 p1 p2 p3 p4 p5 p6 p7 p8 p9 y0 y0' y1 y2 y3 hb1 hk1 hb2 z0 z1 z2 z3 zf g0 g1 g2 g3 hk2
    generalize w2.setCell ⟨(w.heap.size + 1 + 1), 0, none⟩ (.int .i64 t) = w9 at *
    clear w2
    rename World => w2
    have hk2 : Keeps w [(w.heap.size + 1, 25, [.int .i64 t, .int .i64 q, .int .i64 p, .slice ax xs.length cx]), (w.heap.size, 31, [.slice aub nb cub, .bool o, .int .i64 ct, .int .i64 co, .int .i64 cp, .slice auc cd.length cuc, .int .i64 l, .int .i64 lt, .int .i64 la, .slice aul ld.length cul])] w2 := hkx.less fun e he => .tail _ he
    have hoo : Bk w2 (w.heap.size + 1 + 1) 25 [.int .i64 t, .int .i64 oq, .int .i64 op, .slice ay ys.length cy] := hkx.2 _ (.head _)
    have HOO := Lib.hid hoo
    have HC1 : Hid (∀ W, Keeps w [(w.heap.size + 1, 25, [.int .i64 t, .int .i64 q, .int .i64 p, .slice ax xs.length cx]), (w.heap.size, 31, [.slice aub nb cub, .bool o, .int .i64 ct, .int .i64 co, .int .i64 cp, .slice auc cd.length cuc, .int .i64 l, .int .i64 lt, .int .i64 la, .slice aul ld.length cul])] W → (W.cell? ⟨w.heap.size, 0, none⟩ = some (.slice aub nb cub) ∧ W.cell? ⟨w.heap.size, 1, none⟩ = some (.bool o) ∧ W.cell? ⟨w.heap.size, 2, none⟩ = some (.int .i64 ct) ∧ W.cell? ⟨w.heap.size, 3, none⟩ = some (.int .i64 co) ∧ W.cell? ⟨w.heap.size, 4, none⟩ = some (.int .i64 cp) ∧ W.cell? ⟨w.heap.size, 5, none⟩ = some (.slice auc cd.length cuc) ∧ W.cell? ⟨w.heap.size, 6, none⟩ = some (.int .i64 l) ∧ W.cell? ⟨w.heap.size, 7, none⟩ = some (.int .i64 lt) ∧ W.cell? ⟨w.heap.size, 8, none⟩ = some (.int .i64 la) ∧ W.cell? ⟨w.heap.size, 9, none⟩ = some (.slice aul ld.length cul)) ∧ (W.cell? ⟨(w.heap.size + 1), 0, none⟩ = some (.int .i64 t) ∧ W.cell? ⟨(w.heap.size + 1), 1, none⟩ = some (.int .i64 q) ∧ W.cell? ⟨(w.heap.size + 1), 2, none⟩ = some (.int .i64 p) ∧ W.cell? ⟨(w.heap.size + 1), 3, none⟩ = some (.slice ax xs.length cx))) := fun W hW => by
      have e1 := hW.2 _ (.head _)
      have e0 := hW.2 _ (.tail _ (.head _))
      exact ⟨⟨e0.cell 0, e0.cell 1, e0.cell 2, e0.cell 3, e0.cell 4, e0.cell 5, e0.cell 6, e0.cell 7, e0.cell 8, e0.cell 9⟩, e1.cell 0, e1.cell 1, e1.cell 2, e1.cell 3⟩
    clear hkx hoo HC0
    have HK2 := Lib.hid hk2
    have HQ : Hid (∀ W, Below w2.heap.size w2 W → W.cell? ⟨w.heap.size, 0, none⟩ = some (.slice aub nb cub) ∧ W.cell? ⟨w.heap.size, 1, none⟩ = some (.bool o) ∧ W.cell? ⟨w.heap.size, 2, none⟩ = some (.int .i64 ct) ∧ W.cell? ⟨w.heap.size, 3, none⟩ = some (.int .i64 co) ∧ W.cell? ⟨w.heap.size, 4, none⟩ = some (.int .i64 cp) ∧ W.cell? ⟨w.heap.size, 5, none⟩ = some (.slice auc cd.length cuc) ∧ W.cell? ⟨w.heap.size, 6, none⟩ = some (.int .i64 l) ∧ W.cell? ⟨w.heap.size, 7, none⟩ = some (.int .i64 lt) ∧ W.cell? ⟨w.heap.size, 8, none⟩ = some (.int .i64 la) ∧ W.cell? ⟨w.heap.size, 9, none⟩ = some (.slice aul ld.length cul) ∧ W.cell? ⟨(w.heap.size + 1), 0, none⟩ = some (.int .i64 t) ∧ W.cell? ⟨(w.heap.size + 1), 1, none⟩ = some (.int .i64 q) ∧ W.cell? ⟨(w.heap.size + 1), 2, none⟩ = some (.int .i64 p) ∧ W.cell? ⟨(w.heap.size + 1), 3, none⟩ = some (.slice ax xs.length cx)) := fun W hW => by
      obtain ⟨⟨p0, p1, p2, p3, p4, p5, p6, p7, p8, p9⟩, y0, y1, y2, y3⟩ := HC1.out _ (HK2.out.step hW)
      exact ⟨p0, p1, p2, p3, p4, p5, p6, p7, p8, p9, y0, y1, y2, y3⟩
    have hlow2 := hk2.1
    have HL2 := Lib.hid hlow2
    have hs0 : w.heap.size + 1 < w2.heap.size := (hk2.2 _ (.head _)).lt
    clear hk2 hlow2
    go_cut [7, 8] (fun s5 s6 W' => GotD w2 o2 ct2 co2 cp2 l2 lt2 la2 ec n0 n1 n2 bs2 cd2 ld2 s5 s6 W')
    case first =>
      have hl0 := low_drew w2
      obtain ⟨p0, p1, p2, p3, p4, p5, p6, p7, p8, p9, y0, y1, y2, y3⟩ := HQ.out _ hl0
      have hle : Below w2.heap.size w2 (w2.alloc (.cells #[.slice none 0 0, .bool false, .int .i64 0, .int .i64 0, .int .i64 0, .slice none 0 0, .int .i64 0, .int .i64 0, .int .i64 0, .slice none 0 0] 39 (0, 0))).drew := low_adrew w2 _
      obtain ⟨e0, e1, e2, e3, e4, e5, e6, e7, e8, e9, dd0, dd1, dd2, dd3⟩ := HQ.out _ hle
      go_region_held3 (fun w' => w'.cell? ⟨w.heap.size, 0, none⟩ = some (.slice aub nb cub) ∧ w'.cell? ⟨w.heap.size, 1, none⟩ = some (.bool o) ∧ w'.cell? ⟨w.heap.size, 2, none⟩ = some (.int .i64 ct) ∧ w'.cell? ⟨w.heap.size, 3, none⟩ = some (.int .i64 co) ∧ w'.cell? ⟨w.heap.size, 4, none⟩ = some (.int .i64 cp) ∧ w'.cell? ⟨w.heap.size, 5, none⟩ = some (.slice auc cd.length cuc) ∧ w'.cell? ⟨w.heap.size, 6, none⟩ = some (.int .i64 l) ∧ w'.cell? ⟨w.heap.size, 7, none⟩ = some (.int .i64 lt) ∧ w'.cell? ⟨w.heap.size, 8, none⟩ = some (.int .i64 la) ∧ w'.cell? ⟨w.heap.size, 9, none⟩ = some (.slice aul ld.length cul) ∧ w'.cell? ⟨(w.heap.size + 1), 0, none⟩ = some (.int .i64 t) ∧ w'.cell? ⟨(w.heap.size + 1), 1, none⟩ = some (.int .i64 q) ∧ w'.cell? ⟨(w.heap.size + 1), 2, none⟩ = some (.int .i64 p) ∧ w'.cell? ⟨(w.heap.size + 1), 3, none⟩ = some (.slice ax xs.length cx)) (first | exact ⟨by with_reducible assumption, by with_reducible assumption, by with_reducible assumption, by with_reducible assumption, by with_reducible assumption, by with_reducible assumption, by with_reducible assumption, by with_reducible assumption, by with_reducible assumption, by with_reducible assumption, by with_reducible assumption, by with_reducible assumption, by with_reducible assumption, by with_reducible assumption⟩ | go_keep | exact ⟨(set10_cell (by omega) _ _ _ _ _ _ _ _ _ _).trans (by with_reducible assumption), (set10_cell (by omega) _ _ _ _ _ _ _ _ _ _).trans (by with_reducible assumption), (set10_cell (by omega) _ _ _ _ _ _ _ _ _ _).trans (by with_reducible assumption), (set10_cell (by omega) _ _ _ _ _ _ _ _ _ _).trans (by with_reducible assumption), (set10_cell (by omega) _ _ _ _ _ _ _ _ _ _).trans (by with_reducible assumption), (set10_cell (by omega) _ _ _ _ _ _ _ _ _ _).trans (by with_reducible assumption), (set10_cell (by omega) _ _ _ _ _ _ _ _ _ _).trans (by with_reducible assumption), (set10_cell (by omega) _ _ _ _ _ _ _ _ _ _).trans (by with_reducible assumption), (set10_cell (by omega) _ _ _ _ _ _ _ _ _ _).trans (by with_reducible assumption), (set10_cell (by omega) _ _ _ _ _ _ _ _ _ _).trans (by with_reducible assumption), (set10_cell (by omega) _ _ _ _ _ _ _ _ _ _).trans (by with_reducible assumption), (set10_cell (by omega) _ _ _ _ _ _ _ _ _ _).trans (by with_reducible assumption), (set10_cell (by omega) _ _ _ _ _ _ _ _ _ _).trans (by with_reducible assumption), (set10_cell (by omega) _ _ _ _ _ _ _ _ _ _).trans (by with_reducible assumption)⟩) ((first
        | (go_at_call 12; (with_reducible refine (HTO.out _).mono ?_); rintro e w3 ⟨rfl, hb3⟩; have hl3 := stepAny (by first | with_reducible exact low_drew w2 | with_reducible exact low_adrew w2 _) hb3; obtain ⟨fa0, fa1, fa2, fa3, fa4, fa5, fa6, fa7, fa8, fa9, fb0, fb1, fb2, fb3⟩ := HQ.out w3 hl3; obtain ⟨hc3, hf3⟩ := bcell hb3; (try have hz3 : w2.heap.size < w3.heap.size := (by have := hb3.size; simp at this; omega)); have hs03 : w.heap.size + 1 < w3.heap.size := (by have := hl3.size; omega); have hq3 := HQ.out _ (stepAny hl3 (low_alloc w3 (.cells #[.slice none 0 0, .bool false, .int .i64 0, .int .i64 0, .int .i64 0, .slice none 0 0, .int .i64 0, .int .i64 0, .int .i64 0, .slice none 0 0] 39 (0, 0)))); obtain ⟨ga0, ga1, ga2, ga3, ga4, ga5, ga6, ga7, ga8, ga9, gb0, gb1, gb2, gb3⟩ := hq3)
        | (go_at_call 11; (with_reducible refine (HDO.out _ (stepAny HL2.out (by first | with_reducible exact hl3 | with_reducible exact stepAny hl3 (low_alloc w3 _)))).mono ?_); rintro e w4 ⟨a, k, c, d, r, q', es2, rfl, hdw, hb4⟩; have hl4 := stepAny (by first | with_reducible exact low_refl w3 | with_reducible exact low_alloc w3 _) hb4; have hl4s := stepAny hl3 hl4; obtain ⟨ha0, ha1, ha2, ha3, ha4, ha5, ha6, ha7, ha8, ha9, hx0, hx1, hx2, hx3⟩ := HQ.out w4 hl4s; obtain ⟨hc4, hf4⟩ := bcell hb4; (try have hz4 : w2.heap.size < w4.heap.size := (by have := hb4.size; simp at this; omega)); (try have hz5 : w3.heap.size < w4.heap.size := (by have := hb4.size; simp at this; omega)); have hs04 : w.heap.size + 1 < w4.heap.size := (by have := hl4s.size; omega))))
      all_goals (go_wp2_with fail; go_meet)
      · exact GotD.new hl4s hdw
      · have hkk : Bk (w3.alloc (.cells #[.slice none 0 0, .bool false, .int .i64 0, .int .i64 0, .int .i64 0, .slice none 0 0, .int .i64 0, .int .i64 0, .int .i64 0, .slice none 0 0] 39 (0, 0))) w3.heap.size 39 (dkC (.slice none 0 0) false 0 0 0 (.slice none 0 0) 0 0 0 (.slice none 0 0)) := Bk.newAt w3 _ (dkC _ _ _ _ _ _ _ _ _ _) rfl
        exact GotD.old hl4s (hdw.less' (fun x hx => by subst hx; omega)) (by simp) hl3.size (hkk.below hb4 hkk.lt)
      · have hkk : Bk ((w2.alloc (.cells #[.slice none 0 0, .bool false, .int .i64 0, .int .i64 0, .int .i64 0, .slice none 0 0, .int .i64 0, .int .i64 0, .int .i64 0, .slice none 0 0] 39 (0, 0))).drew) w2.heap.size 39 (dkC (.slice none 0 0) false 0 0 0 (.slice none 0 0) 0 0 0 (.slice none 0 0)) := Bk.newAt w2 _ (dkC _ _ _ _ _ _ _ _ _ _) rfl
        exact GotD.old hl4s (hdw.less' (fun x hx => by subst hx; omega)) (by omega) (Nat.le_refl _) ((hkk.below hb3 hkk.lt).below hl4 (hkk.below hb3 hkk.lt).lt)
    case rest =>
      obtain ⟨b, a, k, c, d, r, q', es2, rfl, rfl, hge, hkb, hdv, hb5⟩ := hcut
      have hlow5 := stepAny HL2.out hb5
      by_cases hec : ec = 0
      · subst hec
        obtain ⟨co1, cp1, l1, cd1, hs1, hv1, hl1⟩ := Dk.give_ok HG.out
        simp only [Prod.mk.injEq] at hs1
        obtain ⟨rfl, rfl, ⟨rfl, rfl, rfl, rfl⟩, rfl, rfl, rfl, rfl⟩ := hs1
        obtain ⟨bs3, ⟨t3, an3, dd3⟩, hrun, htag, hv3⟩ := Dk.run_open 3 hv1 (by omega)
        simp only at htag
        have htag2 := htag.symm
        subst htag2
        have hcd1 := Dk.give_len (s := (bs2, (o, (ct, co, cp, cd), l, (lt2, la2, ld2)))) (c := (ct2, q, p, xs)) hz2 h300
        rw [HG.out] at hcd1
        simp only at hcd1
        have hpr := (Dk.validC_open.1 (Dk.valid_iff.1 hv1).2.1).2.1
        have HV1 := Lib.hid hv1
        have HV3 := Lib.hid hv3
        have HPR := Lib.hid hpr
        have hsz3 := Dk.run_sized 3 (s := (bs2, (true, (ct2, co2, cp2, cd2), l2, (lt2, la2, ld2)))) ⟨by show bs2.length ≤ 1000; omega, by show cd2.length ≤ 1000; omega, by show ld2.length ≤ 1000; omega⟩
        rw [hrun] at hsz3
        have HSZ3 : Hid (dd3.length ≤ 1000) := hsz3.2.2
        have HRUN := Lib.hid hrun
        have hoo5 := HOO.out.below hb5 HOO.out.lt
        have hy5 := HY.out.below hlow5 (Nat.le_refl _)
        clear hsz3 hrun hv3 hv1 hl1 hpr
        obtain ⟨⟨p0, p1, p2, p3, p4, p5, p6, p7, p8, p9⟩, -⟩ := Bk.fd hkb
        obtain ⟨g0, g1, g2, g3⟩ : wc.cell? ⟨(w.heap.size + 1 + 1), 0, none⟩ = some (.int .i64 ct2) ∧ wc.cell? ⟨(w.heap.size + 1 + 1), 1, none⟩ = some (.int .i64 oq) ∧ wc.cell? ⟨(w.heap.size + 1 + 1), 2, none⟩ = some (.int .i64 op) ∧ wc.cell? ⟨(w.heap.size + 1 + 1), 3, none⟩ = some (.slice ay ys.length cy) := ⟨hoo5.cell 0, hoo5.cell 1, hoo5.cell 2, hoo5.cell 3⟩
        have HD7 : Hid (Calls Try.prog 11 #[.agg #[.slice a n0 k, .bool true, .int .i64 ct2, .int .i64 co2, .int .i64 cp2, .slice c n1 d, .int .i64 l2, .int .i64 lt2, .int .i64 la2, .slice r n2 q'], .agg #[.int .i64 ct2, .int .i64 oq, .int .i64 op, .slice ay ys.length cy]] wc fun e w' => ∃ a9 k9 c9 d9 r9 q9 es9, e = .returned (.tuple #[.agg #[.slice a9 n0 k9, .bool true, .int .i64 ct2, .int .i64 co2, .int .i64 cp2, .slice c9 n1 d9, .int .i64 l2, .int .i64 lt2, .int .i64 la2, .slice r9 n2 q9], .int .i64 0]) ∧ Dw wc.heap.size (fun x => x = b) w' (.slice a9 n0 k9) (.slice c9 n1 d9) (.slice r9 n2 q9) es9 bs2 cd2 ld2 ∧ Below wc.heap.size wc w') := do_f (X := fun x => x = b) true ct2 co2 cp2 l2 lt2 la2 ct2 oq op hdv.here (Av.mono hdv fun _ h => h.e) hy5 (by have := hdv.here.n; omega) (by omega) (by omega) (by omega) (Dk.give_same HV1.out) HN0.out.symm HN1.out.symm HN2.out.symm
        go_upto_region 8 with (go_at_call 11; (with_reducible refine HD7.out.mono ?_); rintro e w9 ⟨a9, k9, c9, d9, r9, q9, es9, rfl, hdw9, hb9⟩)
        have hk1' : Bk w9 b 39 [.slice a n0 k, .bool true, .int .i64 ct2, .int .i64 co2, .int .i64 cp2, .slice c n1 d, .int .i64 l2, .int .i64 lt2, .int .i64 la2, .slice r n2 q'] := hkb.below hb9 hkb.lt
        have hk2' : Bk w9 (w.heap.size + 1 + 1) 25 [.int .i64 ct2, .int .i64 oq, .int .i64 op, .slice ay ys.length cy] := hoo5.below hb9 hoo5.lt
        have hd3' : Dv (fun x => x = b) w9 (.slice a n0 k) (.slice c n1 d) (.slice r n2 q') es2 bs2 cd2 ld2 := hdv.below hb9
        have hl4' : Below w.heap.size w w9 := stepAny hlow5 hb9
        have hk5' : Bk (w9.alloc (.cells #[.slice a9 n0 k9, .bool true, .int .i64 ct2, .int .i64 co2, .int .i64 cp2, .slice c9 n1 d9, .int .i64 l2, .int .i64 lt2, .int .i64 la2, .slice r9 n2 q9] 39 (0, 0))) b 39 [.slice a n0 k, .bool true, .int .i64 ct2, .int .i64 co2, .int .i64 cp2, .slice c n1 d, .int .i64 l2, .int .i64 lt2, .int .i64 la2, .slice r n2 q'] := hk1'.alloc _
        have hk6' : Bk (w9.alloc (.cells #[.slice a9 n0 k9, .bool true, .int .i64 ct2, .int .i64 co2, .int .i64 cp2, .slice c9 n1 d9, .int .i64 l2, .int .i64 lt2, .int .i64 la2, .slice r9 n2 q9] 39 (0, 0))) (w.heap.size + 1 + 1) 25 [.int .i64 ct2, .int .i64 oq, .int .i64 op, .slice ay ys.length cy] := hk2'.alloc _
        have hd7' : Dv (fun x => x = b) (w9.alloc (.cells #[.slice a9 n0 k9, .bool true, .int .i64 ct2, .int .i64 co2, .int .i64 cp2, .slice c9 n1 d9, .int .i64 l2, .int .i64 lt2, .int .i64 la2, .slice r9 n2 q9] 39 (0, 0))) (.slice a n0 k) (.slice c n1 d) (.slice r n2 q') es2 bs2 cd2 ld2 := hd3'.below (low_alloc _ _)
        have hl8' : Below w.heap.size w (w9.alloc (.cells #[.slice a9 n0 k9, .bool true, .int .i64 ct2, .int .i64 co2, .int .i64 cp2, .slice c9 n1 d9, .int .i64 l2, .int .i64 lt2, .int .i64 la2, .slice r9 n2 q9] 39 (0, 0))) := hl4'.alloc hl4'.size _
        have hk9' : Bk (w9.alloc (.cells #[.slice a9 n0 k9, .bool true, .int .i64 ct2, .int .i64 co2, .int .i64 cp2, .slice c9 n1 d9, .int .i64 l2, .int .i64 lt2, .int .i64 la2, .slice r9 n2 q9] 39 (0, 0))) w9.heap.size 39 [.slice a9 n0 k9, .bool true, .int .i64 ct2, .int .i64 co2, .int .i64 cp2, .slice c9 n1 d9, .int .i64 l2, .int .i64 lt2, .int .i64 la2, .slice r9 n2 q9] := Bk.newAt _ _ [.slice a9 n0 k9, .bool true, .int .i64 ct2, .int .i64 co2, .int .i64 cp2, .slice c9 n1 d9, .int .i64 l2, .int .i64 lt2, .int .i64 la2, .slice r9 n2 q9] rfl
        have hde9 : De (w9.alloc (.cells #[.slice a9 n0 k9, .bool true, .int .i64 ct2, .int .i64 co2, .int .i64 cp2, .slice c9 n1 d9, .int .i64 l2, .int .i64 lt2, .int .i64 la2, .slice r9 n2 q9] 39 (0, 0))) (.slice a9 n0 k9) (.slice c9 n1 d9) (.slice r9 n2 q9) es9 bs2 cd2 ld2 := hdw9.de.below (low_alloc _ _) (Nat.le_refl _)
        have hy9 : Sl eb (w9.alloc (.cells #[.slice a9 n0 k9, .bool true, .int .i64 ct2, .int .i64 co2, .int .i64 cp2, .slice c9 n1 d9, .int .i64 l2, .int .i64 lt2, .int .i64 la2, .slice r9 n2 q9] 39 (0, 0))) (.slice ay ys.length cy) ys := (hy5.below hb9 (Nat.le_refl _)).below (low_alloc _ _) (Nat.le_refl _)
        clear hkb hoo5 hdv hb5 hlow5 hdw9 hb9 HD7 p0 p1 p2 p3 p4 p5 p6 p7 p8 p9 g0 g1 g2 g3 hy5
        generalize w9.alloc (.cells #[.slice a9 n0 k9, .bool true, .int .i64 ct2, .int .i64 co2, .int .i64 cp2, .slice c9 n1 d9, .int .i64 l2, .int .i64 lt2, .int .i64 la2, .slice r9 n2 q9] 39 (0, 0)) = W9 at *
        obtain ⟨b9, hb9e⟩ : ∃ x, x = w9.heap.size := ⟨_, rfl⟩
        rw [← hb9e] at hk9' ⊢
        clear hb9e
        obtain ⟨⟨p0, p1, p2, p3, p4, p5, p6, p7, p8, p9⟩, -⟩ := Bk.fd hk5'
        obtain ⟨e0, e1, e2, e3, e4, e5, e6, e7, e8, e9⟩ : W9.cell? ⟨b9, 0, none⟩ = some (.slice a9 n0 k9) ∧ W9.cell? ⟨b9, 1, none⟩ = some (.bool true) ∧ W9.cell? ⟨b9, 2, none⟩ = some (.int .i64 ct2) ∧ W9.cell? ⟨b9, 3, none⟩ = some (.int .i64 co2) ∧ W9.cell? ⟨b9, 4, none⟩ = some (.int .i64 cp2) ∧ W9.cell? ⟨b9, 5, none⟩ = some (.slice c9 n1 d9) ∧ W9.cell? ⟨b9, 6, none⟩ = some (.int .i64 l2) ∧ W9.cell? ⟨b9, 7, none⟩ = some (.int .i64 lt2) ∧ W9.cell? ⟨b9, 8, none⟩ = some (.int .i64 la2) ∧ W9.cell? ⟨b9, 9, none⟩ = some (.slice r9 n2 q9) := ⟨hk9'.cell 0, hk9'.cell 1, hk9'.cell 2, hk9'.cell 3, hk9'.cell 4, hk9'.cell 5, hk9'.cell 6, hk9'.cell 7, hk9'.cell 8, hk9'.cell 9⟩
        have hEQ := dequal_w true true ct2 co2 cp2 l2 lt2 la2 ct2 co2 cp2 l2 lt2 la2 hd7'.here.dr hde9.dr
        rw [Dk.eqS_iff.2 rfl] at hEQ
        have HEQ := Lib.hid hEQ
        clear hEQ
        go_upto_region 10 with (go_at_call 19; (with_reducible refine HEQ.out.mono ?_); rintro e w10 ⟨rfl, hb10⟩)
        have hk10' : Bk w10 b 39 [.slice a n0 k, .bool true, .int .i64 ct2, .int .i64 co2, .int .i64 cp2, .slice c n1 d, .int .i64 l2, .int .i64 lt2, .int .i64 la2, .slice r n2 q'] := hk5'.below hb10 hk5'.lt
        have hk11' : Bk w10 (w.heap.size + 1 + 1) 25 [.int .i64 ct2, .int .i64 oq, .int .i64 op, .slice ay ys.length cy] := hk6'.below hb10 hk6'.lt
        have hd12' : Dv (fun x => x = b) w10 (.slice a n0 k) (.slice c n1 d) (.slice r n2 q') es2 bs2 cd2 ld2 := hd7'.below hb10
        have hl13' : Below w.heap.size w w10 := stepAny hl8' hb10
        have hy10 := hy9.below hb10 (Nat.le_refl _)
        clear hk5' hk6' hk9' hd7' hl8' hde9 hy9 HEQ hb10 p0 p1 p2 p3 p4 p5 p6 p7 p8 p9 e0 e1 e2 e3 e4 e5 e6 e7 e8 e9
        have hR := run_w true ct2 co2 cp2 l2 lt2 la2 hd12' (fun x h => h ▸ hk10'.lt) ⟨by show bs2.length ≤ 1000; omega, by show cd2.length ≤ 1000; omega, by show ld2.length ≤ 1000; omega⟩
        rw [HRUN.out] at hR
        have HR2 : Hid (Calls Try.prog 13 #[.agg #[.slice a n0 k, .bool true, .int .i64 ct2, .int .i64 co2, .int .i64 cp2, .slice c n1 d, .int .i64 l2, .int .i64 lt2, .int .i64 la2, .slice r n2 q']] w10 fun e w' => ∃ a3 k3 c3 d3 r3 q3 u5 v5 es3, e = .returned (.tuple #[.agg #[.slice a3 bs3.length k3, .bool false, .int .i64 0, .int .i64 0, .int .i64 0, .slice c3 0 d3, .int .i64 0, .int .i64 ct2, .int .i64 an3, .slice r3 dd3.length q3], .agg #[.int .i64 ct2, .int .i64 an3, .slice u5 dd3.length v5], .bool true]) ∧ De w' (.slice a3 bs3.length k3) (.slice c3 0 d3) (.slice r3 dd3.length q3) es3 bs3 [] dd3 ∧ Sl eb w' (.slice u5 dd3.length v5) dd3 ∧ Below w10.heap.size w10 w') :=
          hR.mono fun e w' h => by
            obtain ⟨ub, uc, ul, es3, u, rfl, hd3, hs3, hb3⟩ := h
            obtain ⟨a3, k3, rfl, -⟩ := id hd3.here.r
            obtain ⟨c3, d3, rfl, -⟩ := id hd3.here.c
            obtain ⟨r3, q3, rfl, -⟩ := id hd3.here.l
            obtain ⟨u5, v5, rfl, -⟩ := id hs3.here
            have hn := hd3.here.n
            have hd4 := hd3.here
            rw [hn] at hd4 ⊢
            exact ⟨_, _, _, _, _, _, _, _, es3, rfl, hd4, hs3.here, hb3⟩
        clear hR
        obtain ⟨⟨p0, p1, p2, p3, p4, p5, p6, p7, p8, p9⟩, -⟩ := Bk.fd hk10'
        go_upto_region 11 with (go_at_call 13; (with_reducible refine HR2.out.mono ?_); rintro e w11 ⟨a3, k3, c3, d3, r3, q3, u5, v5, es3, rfl, hd3, hs3, hb11⟩)
        have hk14' : Bk w11 (w.heap.size + 1 + 1) 25 [.int .i64 ct2, .int .i64 oq, .int .i64 op, .slice ay ys.length cy] := hk11'.below hb11 hk11'.lt
        have hl15' : Below w.heap.size w w11 := stepAny hl13' hb11
        have hk16' : Bk (w11.alloc (.cells #[.slice a3 bs3.length k3, .bool false, .int .i64 0, .int .i64 0, .int .i64 0, .slice c3 0 d3, .int .i64 0, .int .i64 ct2, .int .i64 an3, .slice r3 dd3.length q3] 39 (0, 0))) (w.heap.size + 1 + 1) 25 [.int .i64 ct2, .int .i64 oq, .int .i64 op, .slice ay ys.length cy] := hk14'.alloc _
        have hl17' : Below w.heap.size w (w11.alloc (.cells #[.slice a3 bs3.length k3, .bool false, .int .i64 0, .int .i64 0, .int .i64 0, .slice c3 0 d3, .int .i64 0, .int .i64 ct2, .int .i64 an3, .slice r3 dd3.length q3] 39 (0, 0))) := hl15'.alloc hl15'.size _
        have hk18' : Bk (w11.alloc (.cells #[.slice a3 bs3.length k3, .bool false, .int .i64 0, .int .i64 0, .int .i64 0, .slice c3 0 d3, .int .i64 0, .int .i64 ct2, .int .i64 an3, .slice r3 dd3.length q3] 39 (0, 0))) w11.heap.size 39 [.slice a3 bs3.length k3, .bool false, .int .i64 0, .int .i64 0, .int .i64 0, .slice c3 0 d3, .int .i64 0, .int .i64 ct2, .int .i64 an3, .slice r3 dd3.length q3] := Bk.newAt _ _ [.slice a3 bs3.length k3, .bool false, .int .i64 0, .int .i64 0, .int .i64 0, .slice c3 0 d3, .int .i64 0, .int .i64 ct2, .int .i64 an3, .slice r3 dd3.length q3] rfl
        have hk19' : Bk ((w11.alloc (.cells #[.slice a3 bs3.length k3, .bool false, .int .i64 0, .int .i64 0, .int .i64 0, .slice c3 0 d3, .int .i64 0, .int .i64 ct2, .int .i64 an3, .slice r3 dd3.length q3] 39 (0, 0))).alloc (.cells #[.int .i64 ct2, .int .i64 an3, .slice u5 dd3.length v5] 35 (0, 0))) (w.heap.size + 1 + 1) 25 [.int .i64 ct2, .int .i64 oq, .int .i64 op, .slice ay ys.length cy] := hk16'.alloc _
        have hk20' : Bk ((w11.alloc (.cells #[.slice a3 bs3.length k3, .bool false, .int .i64 0, .int .i64 0, .int .i64 0, .slice c3 0 d3, .int .i64 0, .int .i64 ct2, .int .i64 an3, .slice r3 dd3.length q3] 39 (0, 0))).alloc (.cells #[.int .i64 ct2, .int .i64 an3, .slice u5 dd3.length v5] 35 (0, 0))) w11.heap.size 39 [.slice a3 bs3.length k3, .bool false, .int .i64 0, .int .i64 0, .int .i64 0, .slice c3 0 d3, .int .i64 0, .int .i64 ct2, .int .i64 an3, .slice r3 dd3.length q3] := hk18'.alloc _
        have hl21' : Below w.heap.size w ((w11.alloc (.cells #[.slice a3 bs3.length k3, .bool false, .int .i64 0, .int .i64 0, .int .i64 0, .slice c3 0 d3, .int .i64 0, .int .i64 ct2, .int .i64 an3, .slice r3 dd3.length q3] 39 (0, 0))).alloc (.cells #[.int .i64 ct2, .int .i64 an3, .slice u5 dd3.length v5] 35 (0, 0))) := hl17'.alloc hl17'.size _
        have hk22' : Bk ((w11.alloc (.cells #[.slice a3 bs3.length k3, .bool false, .int .i64 0, .int .i64 0, .int .i64 0, .slice c3 0 d3, .int .i64 0, .int .i64 ct2, .int .i64 an3, .slice r3 dd3.length q3] 39 (0, 0))).alloc (.cells #[.int .i64 ct2, .int .i64 an3, .slice u5 dd3.length v5] 35 (0, 0))) (w11.heap.size + 1) 35 [.int .i64 ct2, .int .i64 an3, .slice u5 dd3.length v5] := Bk.newAt _ _ [.int .i64 ct2, .int .i64 an3, .slice u5 dd3.length v5] (by simp)
        have hdB : De ((w11.alloc (.cells #[.slice a3 bs3.length k3, .bool false, .int .i64 0, .int .i64 0, .int .i64 0, .slice c3 0 d3, .int .i64 0, .int .i64 ct2, .int .i64 an3, .slice r3 dd3.length q3] 39 (0, 0))).alloc (.cells #[.int .i64 ct2, .int .i64 an3, .slice u5 dd3.length v5] 35 (0, 0))) (.slice a3 bs3.length k3) (.slice c3 0 d3) (.slice r3 dd3.length q3) es3 bs3 [] dd3 := (hd3.below (low_alloc _ _) (Nat.le_refl _)).below (low_alloc _ _) (Nat.le_refl _)
        have hsB : Sl eb ((w11.alloc (.cells #[.slice a3 bs3.length k3, .bool false, .int .i64 0, .int .i64 0, .int .i64 0, .slice c3 0 d3, .int .i64 0, .int .i64 ct2, .int .i64 an3, .slice r3 dd3.length q3] 39 (0, 0))).alloc (.cells #[.int .i64 ct2, .int .i64 an3, .slice u5 dd3.length v5] 35 (0, 0))) (.slice u5 dd3.length v5) dd3 := (hs3.below (low_alloc _ _) (Nat.le_refl _)).below (low_alloc _ _) (Nat.le_refl _)
        have hyB : Sl eb ((w11.alloc (.cells #[.slice a3 bs3.length k3, .bool false, .int .i64 0, .int .i64 0, .int .i64 0, .slice c3 0 d3, .int .i64 0, .int .i64 ct2, .int .i64 an3, .slice r3 dd3.length q3] 39 (0, 0))).alloc (.cells #[.int .i64 ct2, .int .i64 an3, .slice u5 dd3.length v5] 35 (0, 0))) (.slice ay ys.length cy) ys := ((hy10.below hb11 (Nat.le_refl _)).below (low_alloc _ _) (Nat.le_refl _)).below (low_alloc _ _) (Nat.le_refl _)
        clear hk10' hk11' hd12' hl13' hd3 hs3 hy10 HR2 hb11 p0 p1 p2 p3 p4 p5 p6 p7 p8 p9
        generalize (w11.alloc (.cells #[.slice a3 bs3.length k3, .bool false, .int .i64 0, .int .i64 0, .int .i64 0, .slice c3 0 d3, .int .i64 0, .int .i64 ct2, .int .i64 an3, .slice r3 dd3.length q3] 39 (0, 0))).alloc (.cells #[.int .i64 ct2, .int .i64 an3, .slice u5 dd3.length v5] 35 (0, 0)) = WB at *
        obtain ⟨b11, hb11e⟩ : ∃ x, x = w11.heap.size := ⟨_, rfl⟩
        rw [← hb11e] at hk20' hk22' ⊢
        clear hb11e
        have HLB := Lib.hid hl21'
        have HB11 := Lib.hid hk20'
        have HB12 := Lib.hid hk22'
        have HDB := Lib.hid hdB
        have HSB := Lib.hid hsB
        have hlt11 := hk20'.lt
        have hlt12 := hk22'.lt
        obtain ⟨⟨p0, p1, p2, p3, p4, p5, p6, p7, p8, p9⟩, -⟩ := Bk.fd hk20'
        obtain ⟨g0, g1, g2, g3⟩ : WB.cell? ⟨(w.heap.size + 1 + 1), 0, none⟩ = some (.int .i64 ct2) ∧ WB.cell? ⟨(w.heap.size + 1 + 1), 1, none⟩ = some (.int .i64 oq) ∧ WB.cell? ⟨(w.heap.size + 1 + 1), 2, none⟩ = some (.int .i64 op) ∧ WB.cell? ⟨(w.heap.size + 1 + 1), 3, none⟩ = some (.slice ay ys.length cy) := ⟨hk19'.cell 0, hk19'.cell 1, hk19'.cell 2, hk19'.cell 3⟩
        have HD11 : Hid (Calls Try.prog 11 #[.agg #[.slice a3 bs3.length k3, .bool false, .int .i64 0, .int .i64 0, .int .i64 0, .slice c3 0 d3, .int .i64 0, .int .i64 ct2, .int .i64 an3, .slice r3 dd3.length q3], .agg #[.int .i64 ct2, .int .i64 oq, .int .i64 op, .slice ay ys.length cy]] WB fun e w' => ∃ a13 k13 c13 d13 r13 q13 es13, e = .returned (.tuple #[.agg #[.slice a13 bs3.length k13, .bool true, .int .i64 ct2, .int .i64 0, .int .i64 0, .slice c13 0 d13, .int .i64 1, .int .i64 ct2, .int .i64 an3, .slice r13 dd3.length q13], .int .i64 0]) ∧ Dw WB.heap.size (fun x => WB.heap.size ≤ x) w' (.slice a13 bs3.length k13) (.slice c13 0 d13) (.slice r13 dd3.length q13) es13 bs3 [] dd3 ∧ Below WB.heap.size WB w') := do_f (X := fun x => WB.heap.size ≤ x) false 0 0 0 0 ct2 an3 ct2 oq op hdB (Av.start (fun W' hk i h h' => (hdB.keep hk).e i h h') (fun x h => h)) hyB (by have := hdB.n; have := (Dk.valid_iff.1 HV3.out).1; omega) (by simp) HSZ3.out (by omega) (Dk.give_again HV3.out HPR.out) rfl rfl rfl
        clear hk20' hk22' hk19' hl21' hdB hsB hyB
        go_upto_region 12 with (go_at_call 11; (with_reducible refine HD11.out.mono ?_); rintro e w13 ⟨a13, k13, c13, d13, r13, q13, es13, rfl, hdw13, hb13⟩)
        have hlB : Below WB.heap.size WB (w13.alloc (.cells #[.slice a13 bs3.length k13, .bool true, .int .i64 ct2, .int .i64 0, .int .i64 0, .slice c13 0 d13, .int .i64 1, .int .i64 ct2, .int .i64 an3, .slice r13 dd3.length q13] 39 (0, 0))) := stepAny hb13 (low_alloc _ _)
        have hk14 : Bk (w13.alloc (.cells #[.slice a13 bs3.length k13, .bool true, .int .i64 ct2, .int .i64 0, .int .i64 0, .slice c13 0 d13, .int .i64 1, .int .i64 ct2, .int .i64 an3, .slice r13 dd3.length q13] 39 (0, 0))) w13.heap.size 39 [.slice a13 bs3.length k13, .bool true, .int .i64 ct2, .int .i64 0, .int .i64 0, .slice c13 0 d13, .int .i64 1, .int .i64 ct2, .int .i64 an3, .slice r13 dd3.length q13] := Bk.newAt _ _ [.slice a13 bs3.length k13, .bool true, .int .i64 ct2, .int .i64 0, .int .i64 0, .slice c13 0 d13, .int .i64 1, .int .i64 ct2, .int .i64 an3, .slice r13 dd3.length q13] rfl
        have hd14 : Dv (fun x => x = w13.heap.size) (w13.alloc (.cells #[.slice a13 bs3.length k13, .bool true, .int .i64 ct2, .int .i64 0, .int .i64 0, .slice c13 0 d13, .int .i64 1, .int .i64 ct2, .int .i64 an3, .slice r13 dd3.length q13] 39 (0, 0))) (.slice a13 bs3.length k13) (.slice c13 0 d13) (.slice r13 dd3.length q13) es13 bs3 [] dd3 := (Dv.start (X := fun x => x = w13.heap.size) hdw13.de (fun _ h => Nat.le_of_eq h.symm)).below (low_alloc _ _)
        have hge14 : WB.heap.size ≤ w13.heap.size := hb13.size
        clear hdw13 hb13 HD11 p0 p1 p2 p3 p4 p5 p6 p7 p8 p9 g0 g1 g2 g3
        generalize w13.alloc (.cells #[.slice a13 bs3.length k13, .bool true, .int .i64 ct2, .int .i64 0, .int .i64 0, .slice c13 0 d13, .int .i64 1, .int .i64 ct2, .int .i64 an3, .slice r13 dd3.length q13] 39 (0, 0)) = W13 at *
        obtain ⟨b14, hb14e⟩ : ∃ x, x = w13.heap.size := ⟨_, rfl⟩
        rw [← hb14e] at hk14 hd14 hge14 ⊢
        clear hb14e
        have HT : Hid (Calls Try.prog 20 #[.agg #[.slice a13 bs3.length k13, .bool true, .int .i64 ct2, .int .i64 0, .int .i64 0, .slice c13 0 d13, .int .i64 1, .int .i64 ct2, .int .i64 an3, .slice r13 dd3.length q13]] W13 fun e w' => ∃ a15 k15 c15 d15 r15 q15 es15 v, e = .returned (.tuple #[.agg #[.slice a15 bs3.length k15, .bool false, .int .i64 0, .int .i64 0, .int .i64 0, .slice c15 0 d15, .int .i64 0, .int .i64 ct2, .int .i64 an3, .slice r15 dd3.length q15], v]) ∧ Dw W13.heap.size (fun x => x = b14) w' (.slice a15 bs3.length k15) (.slice c15 0 d15) (.slice r15 dd3.length q15) es15 bs3 [] dd3 ∧ AnsV W13.heap.size w' v [(ct2, an3, dd3)] ∧ Below W13.heap.size W13 w') := tick_f (X := fun x => x = b14) true ct2 0 0 1 ct2 an3 hd14.here (Av.mono hd14 fun _ h => h.e) (by have := hd14.here.n; have := (Dk.valid_iff.1 HV3.out).1; omega) (by simp) HSZ3.out (fun x h => h ▸ hk14.lt) (Dk.tick_again HV3.out HPR.out) rfl rfl rfl
        obtain ⟨⟨p0, p1, p2, p3, p4, p5, p6, p7, p8, p9⟩, -⟩ := Bk.fd hk14
        go_upto_region 13 with (go_at_call 20; (with_reducible refine HT.out.mono ?_); rintro e w15 ⟨a15, k15, c15, d15, r15, q15, es15, v15, rfl, hdw15, ⟨bA, uA, rfl, hgeA, hkA, hoA⟩, hb15⟩; obtain ⟨aA, cA, rfl⟩ := own_slice hoA; clear p0 p1 p2 p3 p4 p5 p6 p7 p8 p9; obtain ⟨⟨p0, p1, p2, p3, p4, p5, p6, p7, p8, p9⟩, zq0, zq1, zq2, zq3, zq4, zq5, zq6, zq7, zq8, zq9⟩ := Bk.fd (hk14.below hb15 hk14.lt))
        have hltA : b14 < W13.heap.size := hk14.lt
        have hlB15 : Below WB.heap.size WB ((((((((((w15.setCell ⟨b14, 0, none⟩ (.slice a15 bs3.length k15)).setCell ⟨b14, 1, none⟩ (.bool false)).setCell ⟨b14, 2, none⟩ (.int .i64 0)).setCell ⟨b14, 3, none⟩ (.int .i64 0)).setCell ⟨b14, 4, none⟩ (.int .i64 0)).setCell ⟨b14, 5, none⟩ (.slice c15 0 d15)).setCell ⟨b14, 6, none⟩ (.int .i64 0)).setCell ⟨b14, 7, none⟩ (.int .i64 ct2)).setCell ⟨b14, 8, none⟩ (.int .i64 an3)).setCell ⟨b14, 9, none⟩ (.slice r15 dd3.length q15)) := set10 (stepAny hlB hb15) hge14 (.slice a15 bs3.length k15) (.bool false) (.int .i64 0) (.int .i64 0) (.int .i64 0) (.slice c15 0 d15) (.int .i64 0) (.int .i64 ct2) (.int .i64 an3) (.slice r15 dd3.length q15)
        have hk16 : Bk ((((((((((w15.setCell ⟨b14, 0, none⟩ (.slice a15 bs3.length k15)).setCell ⟨b14, 1, none⟩ (.bool false)).setCell ⟨b14, 2, none⟩ (.int .i64 0)).setCell ⟨b14, 3, none⟩ (.int .i64 0)).setCell ⟨b14, 4, none⟩ (.int .i64 0)).setCell ⟨b14, 5, none⟩ (.slice c15 0 d15)).setCell ⟨b14, 6, none⟩ (.int .i64 0)).setCell ⟨b14, 7, none⟩ (.int .i64 ct2)).setCell ⟨b14, 8, none⟩ (.int .i64 an3)).setCell ⟨b14, 9, none⟩ (.slice r15 dd3.length q15)) b14 39 [.slice a15 bs3.length k15, .bool false, .int .i64 0, .int .i64 0, .int .i64 0, .slice c15 0 d15, .int .i64 0, .int .i64 ct2, .int .i64 an3, .slice r15 dd3.length q15] := (hk14.below hb15 hk14.lt).set10 (.slice a15 bs3.length k15) (.bool false) (.int .i64 0) (.int .i64 0) (.int .i64 0) (.slice c15 0 d15) (.int .i64 0) (.int .i64 ct2) (.int .i64 an3) (.slice r15 dd3.length q15)
        have hd16 : De ((((((((((w15.setCell ⟨b14, 0, none⟩ (.slice a15 bs3.length k15)).setCell ⟨b14, 1, none⟩ (.bool false)).setCell ⟨b14, 2, none⟩ (.int .i64 0)).setCell ⟨b14, 3, none⟩ (.int .i64 0)).setCell ⟨b14, 4, none⟩ (.int .i64 0)).setCell ⟨b14, 5, none⟩ (.slice c15 0 d15)).setCell ⟨b14, 6, none⟩ (.int .i64 0)).setCell ⟨b14, 7, none⟩ (.int .i64 ct2)).setCell ⟨b14, 8, none⟩ (.int .i64 an3)).setCell ⟨b14, 9, none⟩ (.slice r15 dd3.length q15)) (.slice a15 bs3.length k15) (.slice c15 0 d15) (.slice r15 dd3.length q15) es15 bs3 [] dd3 := ((hdw15.dv (fun x h => h ▸ hk14.lt)).set10 (b := b14) rfl (.slice a15 bs3.length k15) (.bool false) (.int .i64 0) (.int .i64 0) (.int .i64 0) (.slice c15 0 d15) (.int .i64 0) (.int .i64 ct2) (.int .i64 an3) (.slice r15 dd3.length q15)).here
        have hkA16 : Bk ((((((((((w15.setCell ⟨b14, 0, none⟩ (.slice a15 bs3.length k15)).setCell ⟨b14, 1, none⟩ (.bool false)).setCell ⟨b14, 2, none⟩ (.int .i64 0)).setCell ⟨b14, 3, none⟩ (.int .i64 0)).setCell ⟨b14, 4, none⟩ (.int .i64 0)).setCell ⟨b14, 5, none⟩ (.slice c15 0 d15)).setCell ⟨b14, 6, none⟩ (.int .i64 0)).setCell ⟨b14, 7, none⟩ (.int .i64 ct2)).setCell ⟨b14, 8, none⟩ (.int .i64 an3)).setCell ⟨b14, 9, none⟩ (.slice r15 dd3.length q15)) bA 35 [.int .i64 ct2, .int .i64 an3, .slice aA dd3.length cA] := hkA.keep (set10_heap (W := w15) (b := b14) (by omega) (.slice a15 bs3.length k15) (.bool false) (.int .i64 0) (.int .i64 0) (.int .i64 0) (.slice c15 0 d15) (.int .i64 0) (.int .i64 ct2) (.int .i64 an3) (.slice r15 dd3.length q15))
        have hsA16 : Sl eb ((((((((((w15.setCell ⟨b14, 0, none⟩ (.slice a15 bs3.length k15)).setCell ⟨b14, 1, none⟩ (.bool false)).setCell ⟨b14, 2, none⟩ (.int .i64 0)).setCell ⟨b14, 3, none⟩ (.int .i64 0)).setCell ⟨b14, 4, none⟩ (.int .i64 0)).setCell ⟨b14, 5, none⟩ (.slice c15 0 d15)).setCell ⟨b14, 6, none⟩ (.int .i64 0)).setCell ⟨b14, 7, none⟩ (.int .i64 ct2)).setCell ⟨b14, 8, none⟩ (.int .i64 an3)).setCell ⟨b14, 9, none⟩ (.slice r15 dd3.length q15)) (.slice aA dd3.length cA) dd3 := Sl.ofOwn (e := 5) (base := W13.heap.size) (own_keep hoA fun k hk => set10_heap (W := w15) (b := b14) (by have := (hoA.lt k hk).1; omega) (.slice a15 bs3.length k15) (.bool false) (.int .i64 0) (.int .i64 0) (.int .i64 0) (.slice c15 0 d15) (.int .i64 0) (.int .i64 ct2) (.int .i64 an3) (.slice r15 dd3.length q15))
        clear hk14 hd14 hdw15 hkA hoA hb15 HT p0 p1 p2 p3 p4 p5 p6 p7 p8 p9 zq0 zq1 zq2 zq3 zq4 zq5 zq6 zq7 zq8 zq9 hlB
        generalize (((((((((w15.setCell ⟨b14, 0, none⟩ (.slice a15 bs3.length k15)).setCell ⟨b14, 1, none⟩ (.bool false)).setCell ⟨b14, 2, none⟩ (.int .i64 0)).setCell ⟨b14, 3, none⟩ (.int .i64 0)).setCell ⟨b14, 4, none⟩ (.int .i64 0)).setCell ⟨b14, 5, none⟩ (.slice c15 0 d15)).setCell ⟨b14, 6, none⟩ (.int .i64 0)).setCell ⟨b14, 7, none⟩ (.int .i64 ct2)).setCell ⟨b14, 8, none⟩ (.int .i64 an3)).setCell ⟨b14, 9, none⟩ (.slice r15 dd3.length q15) = WE at *
        have HSA : Hid (∀ W, Below WE.heap.size WE W → Calls Try.prog 21 #[.agg #[.int .i64 ct2, .int .i64 an3, .slice aA dd3.length cA], .agg #[.int .i64 ct2, .int .i64 an3, .slice u5 dd3.length v5]] W fun e w' => e = .returned (.bool true) ∧ Below W.heap.size W w') := fun W hW => by
          have h := rsameAns_w ct2 an3 ct2 an3 (hsA16.below hW (Nat.le_refl _)) ((HSB.out.below hlB15 (Nat.le_refl _)).below hW (Nat.le_refl _))
          rw [decide_eq_true rfl] at h
          exact h
        have HEQ : Hid (∀ W, Below WE.heap.size WE W → Calls Try.prog 19 #[.agg #[.slice a15 bs3.length k15, .bool false, .int .i64 0, .int .i64 0, .int .i64 0, .slice c15 0 d15, .int .i64 0, .int .i64 ct2, .int .i64 an3, .slice r15 dd3.length q15], .agg #[.slice a3 bs3.length k3, .bool false, .int .i64 0, .int .i64 0, .int .i64 0, .slice c3 0 d3, .int .i64 0, .int .i64 ct2, .int .i64 an3, .slice r3 dd3.length q3]] W fun e w' => e = .returned (.bool true) ∧ Below W.heap.size W w') := fun W hW => by
          have h := dequal_w false false 0 0 0 0 ct2 an3 0 0 0 0 ct2 an3 (hd16.dr.below hW (Nat.le_refl _)) (((HDB.out.below hlB15 (Nat.le_refl _)).below hW (Nat.le_refl _)).dr)
          rw [Dk.eqS_iff.2 rfl] at h
          exact h
        have HQ : Hid (∀ W, Below WE.heap.size WE W → W.cell? ⟨bA, 0, none⟩ = some (.int .i64 ct2) ∧ W.cell? ⟨bA, 1, none⟩ = some (.int .i64 an3) ∧ W.cell? ⟨bA, 2, none⟩ = some (.slice aA dd3.length cA) ∧ W.cell? ⟨(b11 + 1), 0, none⟩ = some (.int .i64 ct2) ∧ W.cell? ⟨(b11 + 1), 1, none⟩ = some (.int .i64 an3) ∧ W.cell? ⟨(b11 + 1), 2, none⟩ = some (.slice u5 dd3.length v5) ∧ W.cell? ⟨b14, 0, none⟩ = some (.slice a15 bs3.length k15) ∧ W.cell? ⟨b14, 1, none⟩ = some (.bool false) ∧ W.cell? ⟨b14, 2, none⟩ = some (.int .i64 0) ∧ W.cell? ⟨b14, 3, none⟩ = some (.int .i64 0) ∧ W.cell? ⟨b14, 4, none⟩ = some (.int .i64 0) ∧ W.cell? ⟨b14, 5, none⟩ = some (.slice c15 0 d15) ∧ W.cell? ⟨b14, 6, none⟩ = some (.int .i64 0) ∧ W.cell? ⟨b14, 7, none⟩ = some (.int .i64 ct2) ∧ W.cell? ⟨b14, 8, none⟩ = some (.int .i64 an3) ∧ W.cell? ⟨b14, 9, none⟩ = some (.slice r15 dd3.length q15) ∧ W.cell? ⟨b11, 0, none⟩ = some (.slice a3 bs3.length k3) ∧ W.cell? ⟨b11, 1, none⟩ = some (.bool false) ∧ W.cell? ⟨b11, 2, none⟩ = some (.int .i64 0) ∧ W.cell? ⟨b11, 3, none⟩ = some (.int .i64 0) ∧ W.cell? ⟨b11, 4, none⟩ = some (.int .i64 0) ∧ W.cell? ⟨b11, 5, none⟩ = some (.slice c3 0 d3) ∧ W.cell? ⟨b11, 6, none⟩ = some (.int .i64 0) ∧ W.cell? ⟨b11, 7, none⟩ = some (.int .i64 ct2) ∧ W.cell? ⟨b11, 8, none⟩ = some (.int .i64 an3) ∧ W.cell? ⟨b11, 9, none⟩ = some (.slice r3 dd3.length q3)) := fun W hW => by
          have h1 := hkA16.below hW hkA16.lt
          have h2' := HB12.out.below hlB15 hlt12
          have h2 := h2'.below hW h2'.lt
          have h3 := hk16.below hW hk16.lt
          have h4' := HB11.out.below hlB15 hlt11
          have h4 := h4'.below hW h4'.lt
          exact ⟨h1.cell 0, h1.cell 1, h1.cell 2, h2.cell 0, h2.cell 1, h2.cell 2, h3.cell 0, h3.cell 1, h3.cell 2, h3.cell 3, h3.cell 4, h3.cell 5, h3.cell 6, h3.cell 7, h3.cell 8, h3.cell 9, h4.cell 0, h4.cell 1, h4.cell 2, h4.cell 3, h4.cell 4, h4.cell 5, h4.cell 6, h4.cell 7, h4.cell 8, h4.cell 9⟩
        have HLE := Lib.hid (stepAny HLB.out hlB15)
        clear hkA16 hsA16 hk16 hd16 hlB15
        have hl0 := low_drew WE
        go_region_held3 (fun w' => w'.cell? ⟨bA, 0, none⟩ = some (.int .i64 ct2) ∧ w'.cell? ⟨bA, 1, none⟩ = some (.int .i64 an3) ∧ w'.cell? ⟨bA, 2, none⟩ = some (.slice aA dd3.length cA) ∧ w'.cell? ⟨(b11 + 1), 0, none⟩ = some (.int .i64 ct2) ∧ w'.cell? ⟨(b11 + 1), 1, none⟩ = some (.int .i64 an3) ∧ w'.cell? ⟨(b11 + 1), 2, none⟩ = some (.slice u5 dd3.length v5) ∧ w'.cell? ⟨b14, 0, none⟩ = some (.slice a15 bs3.length k15) ∧ w'.cell? ⟨b14, 1, none⟩ = some (.bool false) ∧ w'.cell? ⟨b14, 2, none⟩ = some (.int .i64 0) ∧ w'.cell? ⟨b14, 3, none⟩ = some (.int .i64 0) ∧ w'.cell? ⟨b14, 4, none⟩ = some (.int .i64 0) ∧ w'.cell? ⟨b14, 5, none⟩ = some (.slice c15 0 d15) ∧ w'.cell? ⟨b14, 6, none⟩ = some (.int .i64 0) ∧ w'.cell? ⟨b14, 7, none⟩ = some (.int .i64 ct2) ∧ w'.cell? ⟨b14, 8, none⟩ = some (.int .i64 an3) ∧ w'.cell? ⟨b14, 9, none⟩ = some (.slice r15 dd3.length q15) ∧ w'.cell? ⟨b11, 0, none⟩ = some (.slice a3 bs3.length k3) ∧ w'.cell? ⟨b11, 1, none⟩ = some (.bool false) ∧ w'.cell? ⟨b11, 2, none⟩ = some (.int .i64 0) ∧ w'.cell? ⟨b11, 3, none⟩ = some (.int .i64 0) ∧ w'.cell? ⟨b11, 4, none⟩ = some (.int .i64 0) ∧ w'.cell? ⟨b11, 5, none⟩ = some (.slice c3 0 d3) ∧ w'.cell? ⟨b11, 6, none⟩ = some (.int .i64 0) ∧ w'.cell? ⟨b11, 7, none⟩ = some (.int .i64 ct2) ∧ w'.cell? ⟨b11, 8, none⟩ = some (.int .i64 an3) ∧ w'.cell? ⟨b11, 9, none⟩ = some (.slice r3 dd3.length q3)) (first | with_reducible exact HQ.out _ (by with_reducible assumption) | go_keep) ((first
          | (go_at_call 21; (with_reducible refine (HSA.out _ (by with_reducible assumption)).mono ?_); rintro e w17 ⟨rfl, hb17⟩; have hl17 := stepAny hl0 hb17)
          | (go_at_call 19; (with_reducible refine (HEQ.out _ (by with_reducible assumption)).mono ?_); rintro e w18 ⟨rfl, hb18⟩; have hl18 := stepAny hl17 hb18)))
        all_goals (go_wp2_with fail)
        all_goals go_ret
        all_goals exact ⟨rfl, stepAny HLE.out hl18⟩
      · have hne : (ec != 0) = true := by simpa using hec
        clear hec hdv
        go_wp2_with fail
        go_ret
        exact ⟨rfl, hlow5⟩
end Go.Proofs.Yteeoonoccklhmaa
