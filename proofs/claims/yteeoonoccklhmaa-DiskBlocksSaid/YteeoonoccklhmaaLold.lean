/-
  The walk of DiskOld (printed by gen/mk11old.py).
-/
import Derived.Test.YteeoonoccklhmaaLans
namespace Dk
theorem give_old {bs : List (List UInt8)} {o : Bool} {c : Cm} {l : Int} {a : An} {t : Int} (hv : valid (bs, (o, c, l, a)) = true) (hp : prop t = true) (ht : t < top (o, c, l, a)) : give (bs, (o, c, l, a)) (t, 0, 0, []) = (zst, 19) := by
  unfold give
  rw [hv, hp]
  simp only [Bool.true_eq_false, if_false]
  rw [if_pos ht]
end Dk
namespace Go.Proofs.Yteeoonoccklhmaa
open Go.RowKit

theorem prop_of {t : Int} (h : Dk.prop t = true) : 2 ≤ t ∧ t % 2 = 0 := by
  unfold Dk.prop at h
  simp only [Bool.and_eq_true, decide_eq_true_eq] at h
  exact ⟨h.1, by rw [← tmod2 t h.1]; exact h.2⟩
theorem prop_mk {t : Int} (h : 2 ≤ t) (h2 : t % 2 = 0) : Dk.prop t = true := by
  unfold Dk.prop
  simp only [Bool.and_eq_true, decide_eq_true_eq]
  exact ⟨h, by rw [tmod2 t h]; exact h2⟩

set_option maxRecDepth 100000 in
set_option maxHeartbeats 8000000 in
theorem lold_w {w : World} {v0 v1 v2 : Value} (h0 : IsDisk w v0) (h1 : IsCmd w v1) (h2 : IsU16 w v2) :
    Calls Try.prog 4 #[v0, v1, v2] w fun e w' => e = .returned (.bool true) ∧ Below w.heap.size w w' := by
  obtain ⟨o, ct, co, cp, l, lt, la, ub, uc, ul, bs, cd, ld, rfl, hdr, -⟩ := h0
  obtain ⟨t, q, p, ux, xs, rfl, hx, ⟨ht1, ht2⟩, -⟩ := h1
  obtain ⟨ls, rfl, hls0, hls1⟩ := h2
  obtain ⟨es, hde⟩ := hdr.de
  obtain ⟨aub, cub, hub, -⟩ := id hde.r
  obtain ⟨auc, cuc, huc, -⟩ := id hde.c
  obtain ⟨aul, cul, hul, -⟩ := id hde.l
  obtain ⟨ax, cx, hux, -⟩ := id hx
  obtain ⟨nb, hnb⟩ : ∃ n, n = es.length := ⟨_, rfl⟩
  rw [← hnb] at hub
  subst hub huc hul hux
  have HNB := Lib.hid hnb
  have HDE := Lib.hid hde
  have HX := Lib.hid hx
  have hk0 : Keeps w [(w.heap.size + 1, 25, [.int .i64 t, .int .i64 q, .int .i64 p, .slice ax xs.length cx]), (w.heap.size, 31, [.slice aub nb cub, .bool o, .int .i64 ct, .int .i64 co, .int .i64 cp, .slice auc cd.length cuc, .int .i64 l, .int .i64 lt, .int .i64 la, .slice aul ld.length cul])] ((w.alloc (.cells #[.slice aub nb cub, .bool o, .int .i64 ct, .int .i64 co, .int .i64 cp, .slice auc cd.length cuc, .int .i64 l, .int .i64 lt, .int .i64 la, .slice aul ld.length cul] 31 (0, 0))).alloc (.cells #[.int .i64 t, .int .i64 q, .int .i64 p, .slice ax xs.length cx] 25 (0, 0))) := ((Keeps.start w).add 31 [.slice aub nb cub, .bool o, .int .i64 ct, .int .i64 co, .int .i64 cp, .slice auc cd.length cuc, .int .i64 l, .int .i64 lt, .int .i64 la, .slice aul ld.length cul] rfl).add 25 [.int .i64 t, .int .i64 q, .int .i64 p, .slice ax xs.length cx] (by simp)
  have HC0 : Hid (∀ W, Keeps w [(w.heap.size + 1, 25, [.int .i64 t, .int .i64 q, .int .i64 p, .slice ax xs.length cx]), (w.heap.size, 31, [.slice aub nb cub, .bool o, .int .i64 ct, .int .i64 co, .int .i64 cp, .slice auc cd.length cuc, .int .i64 l, .int .i64 lt, .int .i64 la, .slice aul ld.length cul])] W → (W.cell? ⟨w.heap.size, 0, none⟩ = some (.slice aub nb cub) ∧ W.cell? ⟨w.heap.size, 1, none⟩ = some (.bool o) ∧ W.cell? ⟨w.heap.size, 2, none⟩ = some (.int .i64 ct) ∧ W.cell? ⟨w.heap.size, 3, none⟩ = some (.int .i64 co) ∧ W.cell? ⟨w.heap.size, 4, none⟩ = some (.int .i64 cp) ∧ W.cell? ⟨w.heap.size, 5, none⟩ = some (.slice auc cd.length cuc) ∧ W.cell? ⟨w.heap.size, 6, none⟩ = some (.int .i64 l) ∧ W.cell? ⟨w.heap.size, 7, none⟩ = some (.int .i64 lt) ∧ W.cell? ⟨w.heap.size, 8, none⟩ = some (.int .i64 la) ∧ W.cell? ⟨w.heap.size, 9, none⟩ = some (.slice aul ld.length cul)) ∧ (W.cell? ⟨(w.heap.size + 1), 0, none⟩ = some (.int .i64 t) ∧ W.cell? ⟨(w.heap.size + 1), 1, none⟩ = some (.int .i64 q) ∧ W.cell? ⟨(w.heap.size + 1), 2, none⟩ = some (.int .i64 p) ∧ W.cell? ⟨(w.heap.size + 1), 3, none⟩ = some (.slice ax xs.length cx))) := fun W hW => by
    have e1 := hW.2 _ (.head _)
    have e0 := hW.2 _ (.tail _ (.head _))
    exact ⟨⟨e0.cell 0, e0.cell 1, e0.cell 2, e0.cell 3, e0.cell 4, e0.cell 5, e0.cell 6, e0.cell 7, e0.cell 8, e0.cell 9⟩, e1.cell 0, e1.cell 1, e1.cell 2, e1.cell 3⟩
  have HF : Hid (∀ W, Below w.heap.size w W → Calls Try.prog 10 #[.agg #[.slice aub nb cub, .bool o, .int .i64 ct, .int .i64 co, .int .i64 cp, .slice auc cd.length cuc, .int .i64 l, .int .i64 lt, .int .i64 la, .slice aul ld.length cul], .agg #[.int .i64 t, .int .i64 q, .int .i64 p, .slice ax xs.length cx]] W fun e w' => e = .returned (.bool (Dk.few (bs, (o, (ct, co, cp, cd), l, (lt, la, ld))) && decide (xs.length ≤ 300))) ∧ Below W.heap.size W w') := fun W hW => lfew_w o ct co cp l lt la t q p (hdr.below hW (Nat.le_refl _)) (hx.below hW (Nat.le_refl _))
  have HK0 := Lib.hid hk0
  clear hk0 hdr hde hx hnb
  cases hfw : (Dk.few (bs, (o, (ct, co, cp, cd), l, (lt, la, ld))) && decide (xs.length ≤ 300)) with
  | false =>
    rw [hfw] at HF
    clear hfw
    go_enter Try.func4, Try.ntmps4
    go_wp2_with (first
      | (go_at_call 10; (with_reducible refine (HF.out _ hk1.lo).mono ?_); rintro e w2 ⟨rfl, hb2⟩; have hk2 := hk1.step hb2; have tok := True.intro)
      | (go_at_call 9; have _t := tok; refine (awake_w w2).mono ?_; rintro e w3 ⟨rfl, hb3⟩)
      | (go_at_call 9; refine (awake_w _).mono ?_; rintro e w1 ⟨rfl, hb1⟩; have hk1 := HK0.out.step hb1; obtain ⟨⟨p0, p1, p2, p3, p4, p5, p6, p7, p8, p9⟩, y0, y1, y2, y3⟩ := HC0.out _ hk1))
    go_ret
    exact ⟨rfl, (hk2.step hb3).1⟩
  | true =>
    rw [hfw] at HF
    rw [Bool.and_eq_true, decide_eq_true_eq] at hfw
    obtain ⟨hf1, h300⟩ := hfw
    obtain ⟨hz1, hz2, hz3⟩ := few_sized hf1
    clear hf1
    by_cases ht4 : t < 4
    · go_enter Try.func4, Try.ntmps4
      go_wp2_with (first
        | (go_at_call 10; (with_reducible refine (HF.out _ hk1.lo).mono ?_); rintro e w2 ⟨rfl, hb2⟩; have hk2 := hk1.step hb2; obtain ⟨-, z0, -⟩ := HC0.out _ hk2; have tok := True.intro)
        | (go_at_call 9; have _t := tok; refine (awake_w w2).mono ?_; rintro e w3 ⟨rfl, hb3⟩)
        | (go_at_call 9; refine (awake_w _).mono ?_; rintro e w1 ⟨rfl, hb1⟩; have hk1 := HK0.out.step hb1; obtain ⟨⟨p0, p1, p2, p3, p4, p5, p6, p7, p8, p9⟩, y0, y1, y2, y3⟩ := HC0.out _ hk1))
      go_ret
      exact ⟨rfl, (hk2.step hb3).1⟩
    obtain ⟨⟨bs2, o2, ⟨ct2, co2, cp2, cd2⟩, l2, lt2, la2, ld2⟩, ec, hg⟩ : ∃ (s : Dk.St) (e : Int), Dk.give (bs, (o, (ct, co, cp, cd), l, (lt, la, ld))) (t, q, p, xs) = (s, e) := ⟨_, _, rfl⟩
    have HG := Lib.hid hg
    obtain ⟨n0, hn0⟩ : ∃ n, n = bs2.length := ⟨_, rfl⟩
    obtain ⟨n1, hn1⟩ : ∃ n, n = cd2.length := ⟨_, rfl⟩
    obtain ⟨n2, hn2⟩ : ∃ n, n = ld2.length := ⟨_, rfl⟩
    have HDO : Hid (∀ W, Below w.heap.size w W → Calls Try.prog 11 #[.agg #[.slice aub nb cub, .bool o, .int .i64 ct, .int .i64 co, .int .i64 cp, .slice auc cd.length cuc, .int .i64 l, .int .i64 lt, .int .i64 la, .slice aul ld.length cul], .agg #[.int .i64 t, .int .i64 q, .int .i64 p, .slice ax xs.length cx]] W fun e w' => ∃ a k c d r q' es2, e = .returned (.tuple #[.agg #[.slice a n0 k, .bool o2, .int .i64 ct2, .int .i64 co2, .int .i64 cp2, .slice c n1 d, .int .i64 l2, .int .i64 lt2, .int .i64 la2, .slice r n2 q'], .int .i64 ec]) ∧ Dw W.heap.size (fun x => w.heap.size ≤ x) w' (.slice a n0 k) (.slice c n1 d) (.slice r n2 q') es2 bs2 cd2 ld2 ∧ Below W.heap.size W w') := fun W hW =>
      do_f (X := fun x => w.heap.size ≤ x) o ct co cp l lt la t q p (HDE.out.below hW (Nat.le_refl _)) ((Av.start (X := fun x => w.heap.size ≤ x) (W := w) (P := fun W => ∀ i (h : i < es.length) (h' : i < bs.length), Sl eb W (et es[i]) bs[i]) (fun W' hk i h h' => (HDE.out.keep hk).e i h h') (fun x h => h)).below hW) (HX.out.below hW (Nat.le_refl _)) (by have := HDE.out.n; omega) (by omega) (by omega) (by omega) HG.out hn0.symm hn1.symm hn2.symm
    have HTO := Lib.hid (fun W => to_w o ct co cp l lt la aub auc aul nb cub cd.length cuc ld.length cul W)
    have HN0 := Lib.hid hn0
    have HN1 := Lib.hid hn1
    have HN2 := Lib.hid hn2
    clear hg hn0 hn1 hn2
    go_enter Try.func4, Try.ntmps4
    go_upto_region 3 with (first
      | (go_at_call 10; (with_reducible refine (HF.out _ hk1.lo).mono ?_); rintro e w2 ⟨rfl, hb2⟩; have hk2 := hk1.step hb2; obtain ⟨-, z0, -⟩ := HC0.out _ hk2)
      | (go_at_call 9; refine (awake_w _).mono ?_; rintro e w1 ⟨rfl, hb1⟩; have hk1 := HK0.out.step hb1; obtain ⟨⟨p0, p1, p2, p3, p4, p5, p6, p7, p8, p9⟩, y0, y1, y2, y3⟩ := HC0.out _ hk1))
    clear p0 p1 p2 p3 p4 p5 p6 p7 p8 p9 y0 y1 y2 y3 hb1 hk1 hb2 z0
    have HK2 := Lib.hid hk2
    have HQ : Hid (∀ W, Below w2.heap.size w2 W → W.cell? ⟨w.heap.size, 0, none⟩ = some (.slice aub nb cub) ∧ W.cell? ⟨w.heap.size, 1, none⟩ = some (.bool o) ∧ W.cell? ⟨w.heap.size, 2, none⟩ = some (.int .i64 ct) ∧ W.cell? ⟨w.heap.size, 3, none⟩ = some (.int .i64 co) ∧ W.cell? ⟨w.heap.size, 4, none⟩ = some (.int .i64 cp) ∧ W.cell? ⟨w.heap.size, 5, none⟩ = some (.slice auc cd.length cuc) ∧ W.cell? ⟨w.heap.size, 6, none⟩ = some (.int .i64 l) ∧ W.cell? ⟨w.heap.size, 7, none⟩ = some (.int .i64 lt) ∧ W.cell? ⟨w.heap.size, 8, none⟩ = some (.int .i64 la) ∧ W.cell? ⟨w.heap.size, 9, none⟩ = some (.slice aul ld.length cul) ∧ W.cell? ⟨(w.heap.size + 1), 0, none⟩ = some (.int .i64 t) ∧ W.cell? ⟨(w.heap.size + 1), 1, none⟩ = some (.int .i64 q) ∧ W.cell? ⟨(w.heap.size + 1), 2, none⟩ = some (.int .i64 p) ∧ W.cell? ⟨(w.heap.size + 1), 3, none⟩ = some (.slice ax xs.length cx)) := fun W hW => by
      obtain ⟨⟨p0, p1, p2, p3, p4, p5, p6, p7, p8, p9⟩, y0, y1, y2, y3⟩ := HC0.out _ (HK2.out.step hW)
      exact ⟨p0, p1, p2, p3, p4, p5, p6, p7, p8, p9, y0, y1, y2, y3⟩
    have hlow2 := hk2.1
    have HL2 := Lib.hid hlow2
    have hs0 : w.heap.size + 1 < w2.heap.size := (hk2.2 _ (.head _)).lt
    clear hk2 hlow2
    go_cut [7, 8] (fun s5 s6 W' => GotD w2 o2 ct2 co2 cp2 l2 lt2 la2 ec n0 n1 n2 bs2 cd2 ld2 s5 s6 W')
    case first =>
      have hl0 := low_drew w2
      obtain ⟨p0, p1, p2, p3, p4, p5, p6, p7, p8, p9, y0, y1, y2, y3⟩ := HQ.out _ hl0
      have hle : Below w2.heap.size w2 (w2.alloc (.cells #[.slice none 0 0, .bool false, .int .i64 0, .int .i64 0, .int .i64 0, .slice none 0 0, .int .i64 0, .int .i64 0, .int .i64 0, .slice none 0 0] 39 (0, 0))).drew := low_adrew w2 _
      obtain ⟨e0, e1, e2, e3, e4, e5, e6, e7, e8, e9, dd0, dd1, dd2, dd3⟩ := HQ.out _ hle
      go_region_held3 (fun w' => w'.cell? ⟨w.heap.size, 0, none⟩ = some (.slice aub nb cub) ∧ w'.cell? ⟨w.heap.size, 1, none⟩ = some (.bool o) ∧ w'.cell? ⟨w.heap.size, 2, none⟩ = some (.int .i64 ct) ∧ w'.cell? ⟨w.heap.size, 3, none⟩ = some (.int .i64 co) ∧ w'.cell? ⟨w.heap.size, 4, none⟩ = some (.int .i64 cp) ∧ w'.cell? ⟨w.heap.size, 5, none⟩ = some (.slice auc cd.length cuc) ∧ w'.cell? ⟨w.heap.size, 6, none⟩ = some (.int .i64 l) ∧ w'.cell? ⟨w.heap.size, 7, none⟩ = some (.int .i64 lt) ∧ w'.cell? ⟨w.heap.size, 8, none⟩ = some (.int .i64 la) ∧ w'.cell? ⟨w.heap.size, 9, none⟩ = some (.slice aul ld.length cul) ∧ w'.cell? ⟨(w.heap.size + 1), 0, none⟩ = some (.int .i64 t) ∧ w'.cell? ⟨(w.heap.size + 1), 1, none⟩ = some (.int .i64 q) ∧ w'.cell? ⟨(w.heap.size + 1), 2, none⟩ = some (.int .i64 p) ∧ w'.cell? ⟨(w.heap.size + 1), 3, none⟩ = some (.slice ax xs.length cx)) (first | exact ⟨by with_reducible assumption, by with_reducible assumption, by with_reducible assumption, by with_reducible assumption, by with_reducible assumption, by with_reducible assumption, by with_reducible assumption, by with_reducible assumption, by with_reducible assumption, by with_reducible assumption, by with_reducible assumption, by with_reducible assumption, by with_reducible assumption, by with_reducible assumption⟩ | go_keep | exact ⟨(set10_cell (by omega) _ _ _ _ _ _ _ _ _ _).trans (by with_reducible assumption), (set10_cell (by omega) _ _ _ _ _ _ _ _ _ _).trans (by with_reducible assumption), (set10_cell (by omega) _ _ _ _ _ _ _ _ _ _).trans (by with_reducible assumption), (set10_cell (by omega) _ _ _ _ _ _ _ _ _ _).trans (by with_reducible assumption), (set10_cell (by omega) _ _ _ _ _ _ _ _ _ _).trans (by with_reducible assumption), (set10_cell (by omega) _ _ _ _ _ _ _ _ _ _).trans (by with_reducible assumption), (set10_cell (by omega) _ _ _ _ _ _ _ _ _ _).trans (by with_reducible assumption), (set10_cell (by omega) _ _ _ _ _ _ _ _ _ _).trans (by with_reducible assumption), (set10_cell (by omega) _ _ _ _ _ _ _ _ _ _).trans (by with_reducible assumption), (set10_cell (by omega) _ _ _ _ _ _ _ _ _ _).trans (by with_reducible assumption), (set10_cell (by omega) _ _ _ _ _ _ _ _ _ _).trans (by with_reducible assumption), (set10_cell (by omega) _ _ _ _ _ _ _ _ _ _).trans (by with_reducible assumption), (set10_cell (by omega) _ _ _ _ _ _ _ _ _ _).trans (by with_reducible assumption), (set10_cell (by omega) _ _ _ _ _ _ _ _ _ _).trans (by with_reducible assumption)⟩) ((first
        | (go_at_call 12; (with_reducible refine (HTO.out _).mono ?_); rintro e w3 ⟨rfl, hb3⟩; have hl3 := stepAny (by first | with_reducible exact low_drew w2 | with_reducible exact low_adrew w2 _) hb3; obtain ⟨fa0, fa1, fa2, fa3, fa4, fa5, fa6, fa7, fa8, fa9, fb0, fb1, fb2, fb3⟩ := HQ.out w3 hl3; obtain ⟨hc3, hf3⟩ := bcell hb3; (try have hz3 : w2.heap.size < w3.heap.size := (by have := hb3.size; simp at this; omega)); have hs03 : w.heap.size + 1 < w3.heap.size := (by have := hl3.size; omega); have hq3 := HQ.out _ (stepAny hl3 (low_alloc w3 (.cells #[.slice none 0 0, .bool false, .int .i64 0, .int .i64 0, .int .i64 0, .slice none 0 0, .int .i64 0, .int .i64 0, .int .i64 0, .slice none 0 0] 39 (0, 0)))); obtain ⟨ga0, ga1, ga2, ga3, ga4, ga5, ga6, ga7, ga8, ga9, gb0, gb1, gb2, gb3⟩ := hq3)
        | (go_at_call 11; (with_reducible refine (HDO.out _ (stepAny HL2.out (by first | with_reducible exact hl3 | with_reducible exact stepAny hl3 (low_alloc w3 _)))).mono ?_); rintro e w4 ⟨a, k, c, d, r, q', es2, rfl, hdw, hb4⟩; have hl4 := stepAny (by first | with_reducible exact low_refl w3 | with_reducible exact low_alloc w3 _) hb4; have hl4s := stepAny hl3 hl4; obtain ⟨ha0, ha1, ha2, ha3, ha4, ha5, ha6, ha7, ha8, ha9, hx0, hx1, hx2, hx3⟩ := HQ.out w4 hl4s; obtain ⟨hc4, hf4⟩ := bcell hb4; (try have hz4 : w2.heap.size < w4.heap.size := (by have := hb4.size; simp at this; omega)); (try have hz5 : w3.heap.size < w4.heap.size := (by have := hb4.size; simp at this; omega)); have hs04 : w.heap.size + 1 < w4.heap.size := (by have := hl4s.size; omega))))
      all_goals (go_wp2_with fail; go_meet)
      · exact GotD.new hl4s hdw
      · have hkk : Bk (w3.alloc (.cells #[.slice none 0 0, .bool false, .int .i64 0, .int .i64 0, .int .i64 0, .slice none 0 0, .int .i64 0, .int .i64 0, .int .i64 0, .slice none 0 0] 39 (0, 0))) w3.heap.size 39 (dkC (.slice none 0 0) false 0 0 0 (.slice none 0 0) 0 0 0 (.slice none 0 0)) := Bk.newAt w3 _ (dkC _ _ _ _ _ _ _ _ _ _) rfl
        exact GotD.old hl4s (hdw.less' (fun x hx => by subst hx; omega)) (by simp) hl3.size (hkk.below hb4 hkk.lt)
      · have hkk : Bk ((w2.alloc (.cells #[.slice none 0 0, .bool false, .int .i64 0, .int .i64 0, .int .i64 0, .slice none 0 0, .int .i64 0, .int .i64 0, .int .i64 0, .slice none 0 0] 39 (0, 0))).drew) w2.heap.size 39 (dkC (.slice none 0 0) false 0 0 0 (.slice none 0 0) 0 0 0 (.slice none 0 0)) := Bk.newAt w2 _ (dkC _ _ _ _ _ _ _ _ _ _) rfl
        exact GotD.old hl4s (hdw.less' (fun x hx => by subst hx; omega)) (by omega) (Nat.le_refl _) ((hkk.below hb3 hkk.lt).below hl4 (hkk.below hb3 hkk.lt).lt)
    case rest =>
      obtain ⟨b, a, k, c, d, r, q', es2, rfl, rfl, hge, hkb, hdv, hb5⟩ := hcut
      have hlow5 := stepAny HL2.out hb5
      by_cases hec : ec = 0
      · subst hec
        obtain ⟨co1, cp1, l1, cd1, hs1, hv1, hl1⟩ := Dk.give_ok HG.out
        simp only [Prod.mk.injEq] at hs1
        obtain ⟨rfl, rfl, ⟨rfl, rfl, rfl, rfl⟩, rfl, rfl, rfl, rfl⟩ := hs1
        obtain ⟨bs3, ⟨t3, an3, dd3⟩, hrun, htag, hv3⟩ := Dk.run_open 3 hv1 (by omega)
        simp only at htag
        have htag2 := htag.symm
        subst htag2
        have hcd1 := Dk.give_len (s := (bs2, (o, (ct, co, cp, cd), l, (lt2, la2, ld2)))) (c := (ct2, q, p, xs)) hz2 h300
        rw [HG.out] at hcd1
        simp only at hcd1
        have hpr := prop_of (Dk.validC_open.1 (Dk.valid_iff.1 hv1).2.1).2.1
        obtain ⟨hpr1, hpr2⟩ := hpr
        have HV1 := Lib.hid hv1
        have HV3 := Lib.hid hv3
        have hYb : ∀ x, (fun x => x = b) x → x < wc.heap.size := fun x h => h ▸ hkb.lt
        have hsz3 := Dk.run_sized 3 (s := (bs2, (true, (ct2, co2, cp2, cd2), l2, (lt2, la2, ld2)))) ⟨by show bs2.length ≤ 1000; omega, by show cd2.length ≤ 1000; omega, by show ld2.length ≤ 1000; omega⟩
        rw [hrun] at hsz3
        have HSZ3 : Hid (dd3.length ≤ 1000) := hsz3.2.2
        have HRUN := Lib.hid hrun
        clear hsz3 hrun hv3 hv1 hl1
        obtain ⟨⟨p0, p1, p2, p3, p4, p5, p6, p7, p8, p9⟩, -⟩ := Bk.fd hkb
        have hkc : Bk wc (w.heap.size + 1) 25 [.int .i64 ct2, .int .i64 q, .int .i64 p, .slice ax xs.length cx] := ((HK2.out.2 _ (.head _)).below hb5 (HK2.out.2 _ (.head _)).lt)
        have y0 := hkc.cell 0
        simp only [List.getElem?_cons_zero] at y0
        go_upto_region 7 with fail
        have hbw : b < wc.heap.size := hkb.lt
        have hk7 : Bk (wc.alloc (.cells #[.int .i64 (ct2 - 2 - 2 * ls), .int .i64 0, .int .i64 0, .slice none 0 0] 25 (0, 0))) b 39 [.slice a n0 k, .bool true, .int .i64 ct2, .int .i64 co2, .int .i64 cp2, .slice c n1 d, .int .i64 l2, .int .i64 lt2, .int .i64 la2, .slice r n2 q'] := hkb.alloc _
        have ho7 : Bk (wc.alloc (.cells #[.int .i64 (ct2 - 2 - 2 * ls), .int .i64 0, .int .i64 0, .slice none 0 0] 25 (0, 0))) wc.heap.size 25 [.int .i64 (ct2 - 2 - 2 * ls), .int .i64 0, .int .i64 0, .slice none 0 0] := Bk.newAt _ _ [.int .i64 (ct2 - 2 - 2 * ls), .int .i64 0, .int .i64 0, .slice none 0 0] rfl
        have hd7 : Dv (fun x => x = b) (wc.alloc (.cells #[.int .i64 (ct2 - 2 - 2 * ls), .int .i64 0, .int .i64 0, .slice none 0 0] 25 (0, 0))) (.slice a n0 k) (.slice c n1 d) (.slice r n2 q') es2 bs2 cd2 ld2 := hdv.below (low_alloc _ _)
        have hdd7 : Dv (fun x => x = b ∨ x = wc.heap.size) (wc.alloc (.cells #[.int .i64 (ct2 - 2 - 2 * ls), .int .i64 0, .int .i64 0, .slice none 0 0] 25 (0, 0))) (.slice a n0 k) (.slice c n1 d) (.slice r n2 q') es2 bs2 cd2 ld2 := (hdv.more (Y := fun x => x = b ∨ x = wc.heap.size) (fun x h => h.elim .inl (fun h => .inr (Nat.le_of_eq h.symm)))).below (low_alloc _ _)
        have hl7 : Below w.heap.size w (wc.alloc (.cells #[.int .i64 (ct2 - 2 - 2 * ls), .int .i64 0, .int .i64 0, .slice none 0 0] 25 (0, 0))) := hlow5.alloc hlow5.size _
        clear p0 p1 p2 p3 p4 p5 p6 p7 p8 p9 y0 hkb hdv hb5 hkc hYb
        have hgew : w.heap.size ≤ b := by omega
        generalize wc.alloc (.cells #[.int .i64 (ct2 - 2 - 2 * ls), .int .i64 0, .int .i64 0, .slice none 0 0] 25 (0, 0)) = W7 at *
        obtain ⟨T0, hT0⟩ : ∃ T0 : Int, T0 = ct2 - 2 - 2 * ls := ⟨_, rfl⟩
        rw [← hT0] at ho7 ⊢
        obtain ⟨⟨p0, p1, p2, p3, p4, p5, p6, p7, p8, p9⟩, -⟩ := Bk.fd hk7
        obtain ⟨g0, g1, g2, g3⟩ : W7.frozen? ⟨wc.heap.size, 0, none⟩ = false ∧ W7.cell? ⟨wc.heap.size, 0, none⟩ = some (.int .i64 T0) ∧ W7.cell? ⟨wc.heap.size, 1, none⟩ = some (.int .i64 0) ∧ W7.cell? ⟨wc.heap.size, 2, none⟩ = some (.int .i64 0) := ⟨ho7.frozen 0, ho7.cell 0, ho7.cell 1, ho7.cell 2⟩
        by_cases hlt : T0 < 2
        · have hT1 : Dk.prop 2 = true := by decide
          have hT2 : Hid ((2 : Int) < ct2) := by show _ < _; omega
          have hT2 := hT2.out
          clear hT0
          go_upto_region 9 with fail
          have hk8 : Bk (W7.setCell ⟨wc.heap.size, 0, none⟩ (.int .i64 2)) b 39 [.slice a n0 k, .bool true, .int .i64 ct2, .int .i64 co2, .int .i64 cp2, .slice c n1 d, .int .i64 l2, .int .i64 lt2, .int .i64 la2, .slice r n2 q'] := hk7.far (p := ⟨wc.heap.size, 0, none⟩) (by simp; omega) _
          have ho8 : Bk (W7.setCell ⟨wc.heap.size, 0, none⟩ (.int .i64 2)) wc.heap.size 25 [.int .i64 (2), .int .i64 0, .int .i64 0, .slice none 0 0] := ho7.set 0 _
          have hd8 : Dv (fun x => x = b) (W7.setCell ⟨wc.heap.size, 0, none⟩ (.int .i64 2)) (.slice a n0 k) (.slice c n1 d) (.slice r n2 q') es2 bs2 cd2 ld2 := (hdd7.set (p := ⟨wc.heap.size, 0, none⟩) (.inr rfl) _).less fun _ _ h => .inl h
          have hl8 : Below w.heap.size w (W7.setCell ⟨wc.heap.size, 0, none⟩ (.int .i64 2)) := hl7.setCell (by simp; omega) _
          clear hk7 ho7 hdd7 hd7 hl7 g0 g1 g2 g3 p0 p1 p2 p3 p4 p5 p6 p7 p8 p9
          generalize W7.setCell ⟨wc.heap.size, 0, none⟩ (.int .i64 2) = W8 at *
          have HL8 := Lib.hid hl8
          obtain ⟨⟨p0, p1, p2, p3, p4, p5, p6, p7, p8, p9⟩, -⟩ := Bk.fd hk8
          obtain ⟨c0, c1, c2, c3⟩ : W8.cell? ⟨wc.heap.size, 0, none⟩ = some (.int .i64 (2)) ∧ W8.cell? ⟨wc.heap.size, 1, none⟩ = some (.int .i64 0) ∧ W8.cell? ⟨wc.heap.size, 2, none⟩ = some (.int .i64 0) ∧ W8.cell? ⟨wc.heap.size, 3, none⟩ = some (.slice none 0 0) := ⟨ho8.cell 0, ho8.cell 1, ho8.cell 2, ho8.cell 3⟩
          have HD9 : Hid (Calls Try.prog 11 #[.agg #[.slice a n0 k, .bool true, .int .i64 ct2, .int .i64 co2, .int .i64 cp2, .slice c n1 d, .int .i64 l2, .int .i64 lt2, .int .i64 la2, .slice r n2 q'], .agg #[.int .i64 (2), .int .i64 0, .int .i64 0, .slice none 0 0]] W8 fun e w' => ∃ a9 k9 c9 d9 r9 q9 es9, e = .returned (.tuple #[.agg #[.slice a9 0 k9, .bool false, .int .i64 0, .int .i64 0, .int .i64 0, .slice c9 0 d9, .int .i64 0, .int .i64 0, .int .i64 0, .slice r9 0 q9], .int .i64 19]) ∧ Dw W8.heap.size (fun x => x = b) w' (.slice a9 0 k9) (.slice c9 0 d9) (.slice r9 0 q9) es9 [] [] [] ∧ Below W8.heap.size W8 w') := do_f (X := fun x => x = b) true ct2 co2 cp2 l2 lt2 la2 (2) 0 0 (hd8.here) (Av.mono hd8 fun _ h => h.e) (Sl.nil _ _) (by have := hd8.here.n; omega) (by omega) (by omega) (by simp) (Dk.give_old HV1.out hT1 hT2) rfl rfl rfl
          go_upto_region 10 with (go_at_call 11; (with_reducible refine HD9.out.mono ?_); rintro e w9 ⟨a9, k9, c9, d9, r9, q9, es9, rfl, -, hb9⟩)
          have hk1' : Bk w9 b 39 [.slice a n0 k, .bool true, .int .i64 ct2, .int .i64 co2, .int .i64 cp2, .slice c n1 d, .int .i64 l2, .int .i64 lt2, .int .i64 la2, .slice r n2 q'] := hk8.below hb9 hk8.lt
          have hk2' : Bk w9 wc.heap.size 25 [.int .i64 (2), .int .i64 0, .int .i64 0, .slice none 0 0] := ho8.below hb9 ho8.lt
          have hd3' : Dv (fun x => x = b) w9 (.slice a n0 k) (.slice c n1 d) (.slice r n2 q') es2 bs2 cd2 ld2 := hd8.below hb9
          have hl4' : Below w.heap.size w w9 := stepAny hl8 hb9
          have hk5' : Bk (w9.alloc (.cells #[.slice a9 0 k9, .bool false, .int .i64 0, .int .i64 0, .int .i64 0, .slice c9 0 d9, .int .i64 0, .int .i64 0, .int .i64 0, .slice r9 0 q9] 39 (0, 0))) b 39 [.slice a n0 k, .bool true, .int .i64 ct2, .int .i64 co2, .int .i64 cp2, .slice c n1 d, .int .i64 l2, .int .i64 lt2, .int .i64 la2, .slice r n2 q'] := hk1'.alloc _
          have hk6' : Bk (w9.alloc (.cells #[.slice a9 0 k9, .bool false, .int .i64 0, .int .i64 0, .int .i64 0, .slice c9 0 d9, .int .i64 0, .int .i64 0, .int .i64 0, .slice r9 0 q9] 39 (0, 0))) wc.heap.size 25 [.int .i64 (2), .int .i64 0, .int .i64 0, .slice none 0 0] := hk2'.alloc _
          have hd7' : Dv (fun x => x = b) (w9.alloc (.cells #[.slice a9 0 k9, .bool false, .int .i64 0, .int .i64 0, .int .i64 0, .slice c9 0 d9, .int .i64 0, .int .i64 0, .int .i64 0, .slice r9 0 q9] 39 (0, 0))) (.slice a n0 k) (.slice c n1 d) (.slice r n2 q') es2 bs2 cd2 ld2 := hd3'.below (low_alloc _ _)
          have hl8' : Below w.heap.size w (w9.alloc (.cells #[.slice a9 0 k9, .bool false, .int .i64 0, .int .i64 0, .int .i64 0, .slice c9 0 d9, .int .i64 0, .int .i64 0, .int .i64 0, .slice r9 0 q9] 39 (0, 0))) := hl4'.alloc hl4'.size _
          have hk9' : Bk (w9.alloc (.cells #[.slice a9 0 k9, .bool false, .int .i64 0, .int .i64 0, .int .i64 0, .slice c9 0 d9, .int .i64 0, .int .i64 0, .int .i64 0, .slice r9 0 q9] 39 (0, 0))) w9.heap.size 39 [.slice a9 0 k9, .bool false, .int .i64 0, .int .i64 0, .int .i64 0, .slice c9 0 d9, .int .i64 0, .int .i64 0, .int .i64 0, .slice r9 0 q9] := Bk.newAt _ _ [.slice a9 0 k9, .bool false, .int .i64 0, .int .i64 0, .int .i64 0, .slice c9 0 d9, .int .i64 0, .int .i64 0, .int .i64 0, .slice r9 0 q9] rfl
          clear hk8 ho8 hd8 hl8 hb9 p0 p1 p2 p3 p4 p5 p6 p7 p8 p9 c0 c1 c2 c3 HD9
          generalize w9.alloc (.cells #[.slice a9 0 k9, .bool false, .int .i64 0, .int .i64 0, .int .i64 0, .slice c9 0 d9, .int .i64 0, .int .i64 0, .int .i64 0, .slice r9 0 q9] 39 (0, 0)) = W10 at *
          have hR := run_w true ct2 co2 cp2 l2 lt2 la2 hd7' (fun x h => h ▸ hk5'.lt) ⟨by show bs2.length ≤ 1000; omega, by show cd2.length ≤ 1000; omega, by show ld2.length ≤ 1000; omega⟩
          rw [HRUN.out] at hR
          have HR2 : Hid (Calls Try.prog 13 #[.agg #[.slice a n0 k, .bool true, .int .i64 ct2, .int .i64 co2, .int .i64 cp2, .slice c n1 d, .int .i64 l2, .int .i64 lt2, .int .i64 la2, .slice r n2 q']] W10 fun e w' => ∃ a3 m3 k3 c3 d3 r3 s3 j3 u5 m5 v5 es3, e = .returned (.tuple #[.agg #[.slice a3 m3 k3, .bool false, .int .i64 0, .int .i64 0, .int .i64 0, .slice c3 0 d3, .int .i64 0, .int .i64 ct2, .int .i64 an3, .slice r3 s3 j3], .agg #[.int .i64 ct2, .int .i64 an3, .slice u5 m5 v5], .bool true]) ∧ Dv (fun x => x = b) w' (.slice a3 m3 k3) (.slice c3 0 d3) (.slice r3 s3 j3) es3 bs3 [] dd3 ∧ Below W10.heap.size W10 w') :=
            hR.mono fun e w' h => by
              obtain ⟨ub, uc, ul, es3, u, rfl, hd3, hs3, hb3⟩ := h
              obtain ⟨a3, k3, rfl, -⟩ := id hd3.here.r
              obtain ⟨c3, d3, rfl, -⟩ := id hd3.here.c
              obtain ⟨r3, q3, rfl, -⟩ := id hd3.here.l
              obtain ⟨u5, v5, rfl, -⟩ := id hs3.here
              exact ⟨_, _, _, _, _, _, _, _, _, _, _, es3, rfl, hd3, hb3⟩
          clear hR
          obtain ⟨⟨p0, p1, p2, p3, p4, p5, p6, p7, p8, p9⟩, -⟩ := Bk.fd hk5'
          go_upto_region 11 with (go_at_call 13; (with_reducible refine HR2.out.mono ?_); rintro e w11 ⟨a3, m3, k3, c3, d3, r3, s3, j3, u5, m5, v5, es3, rfl, hd3, hb11⟩; clear p0 p1 p2 p3 p4 p5 p6 p7 p8 p9; obtain ⟨⟨p0, p1, p2, p3, p4, p5, p6, p7, p8, p9⟩, zq0, zq1, zq2, zq3, zq4, zq5, zq6, zq7, zq8, zq9⟩ := Bk.fd (hk5'.below hb11 hk5'.lt))
          have hk10' : Bk w11 b 39 [.slice a n0 k, .bool true, .int .i64 ct2, .int .i64 co2, .int .i64 cp2, .slice c n1 d, .int .i64 l2, .int .i64 lt2, .int .i64 la2, .slice r n2 q'] := hk5'.below hb11 hk5'.lt
          have hk11' : Bk w11 wc.heap.size 25 [.int .i64 (2), .int .i64 0, .int .i64 0, .slice none 0 0] := hk6'.below hb11 hk6'.lt
          have hl12' : Below w.heap.size w w11 := stepAny hl8' hb11
          have hk13' : Bk ((((((((((w11.setCell ⟨b, 0, none⟩ (.slice a3 m3 k3)).setCell ⟨b, 1, none⟩ (.bool false)).setCell ⟨b, 2, none⟩ (.int .i64 0)).setCell ⟨b, 3, none⟩ (.int .i64 0)).setCell ⟨b, 4, none⟩ (.int .i64 0)).setCell ⟨b, 5, none⟩ (.slice c3 0 d3)).setCell ⟨b, 6, none⟩ (.int .i64 0)).setCell ⟨b, 7, none⟩ (.int .i64 ct2)).setCell ⟨b, 8, none⟩ (.int .i64 an3)).setCell ⟨b, 9, none⟩ (.slice r3 s3 j3)) b 39 [.slice a3 m3 k3, .bool false, .int .i64 0, .int .i64 0, .int .i64 0, .slice c3 0 d3, .int .i64 0, .int .i64 ct2, .int .i64 an3, .slice r3 s3 j3] := hk10'.set10 (.slice a3 m3 k3) (.bool false) (.int .i64 0) (.int .i64 0) (.int .i64 0) (.slice c3 0 d3) (.int .i64 0) (.int .i64 ct2) (.int .i64 an3) (.slice r3 s3 j3)
          have hk14' : Bk ((((((((((w11.setCell ⟨b, 0, none⟩ (.slice a3 m3 k3)).setCell ⟨b, 1, none⟩ (.bool false)).setCell ⟨b, 2, none⟩ (.int .i64 0)).setCell ⟨b, 3, none⟩ (.int .i64 0)).setCell ⟨b, 4, none⟩ (.int .i64 0)).setCell ⟨b, 5, none⟩ (.slice c3 0 d3)).setCell ⟨b, 6, none⟩ (.int .i64 0)).setCell ⟨b, 7, none⟩ (.int .i64 ct2)).setCell ⟨b, 8, none⟩ (.int .i64 an3)).setCell ⟨b, 9, none⟩ (.slice r3 s3 j3)) wc.heap.size 25 [.int .i64 (2), .int .i64 0, .int .i64 0, .slice none 0 0] := hk11'.keep (set10_heap (W := w11) (b := b) (by omega) (.slice a3 m3 k3) (.bool false) (.int .i64 0) (.int .i64 0) (.int .i64 0) (.slice c3 0 d3) (.int .i64 0) (.int .i64 ct2) (.int .i64 an3) (.slice r3 s3 j3))
          have hd15' : Dv (fun x => x = b) ((((((((((w11.setCell ⟨b, 0, none⟩ (.slice a3 m3 k3)).setCell ⟨b, 1, none⟩ (.bool false)).setCell ⟨b, 2, none⟩ (.int .i64 0)).setCell ⟨b, 3, none⟩ (.int .i64 0)).setCell ⟨b, 4, none⟩ (.int .i64 0)).setCell ⟨b, 5, none⟩ (.slice c3 0 d3)).setCell ⟨b, 6, none⟩ (.int .i64 0)).setCell ⟨b, 7, none⟩ (.int .i64 ct2)).setCell ⟨b, 8, none⟩ (.int .i64 an3)).setCell ⟨b, 9, none⟩ (.slice r3 s3 j3)) (.slice a3 m3 k3) (.slice c3 0 d3) (.slice r3 s3 j3) es3 bs3 [] dd3 := hd3.set10 (b := b) rfl (.slice a3 m3 k3) (.bool false) (.int .i64 0) (.int .i64 0) (.int .i64 0) (.slice c3 0 d3) (.int .i64 0) (.int .i64 ct2) (.int .i64 an3) (.slice r3 s3 j3)
          have hl16' : Below w.heap.size w ((((((((((w11.setCell ⟨b, 0, none⟩ (.slice a3 m3 k3)).setCell ⟨b, 1, none⟩ (.bool false)).setCell ⟨b, 2, none⟩ (.int .i64 0)).setCell ⟨b, 3, none⟩ (.int .i64 0)).setCell ⟨b, 4, none⟩ (.int .i64 0)).setCell ⟨b, 5, none⟩ (.slice c3 0 d3)).setCell ⟨b, 6, none⟩ (.int .i64 0)).setCell ⟨b, 7, none⟩ (.int .i64 ct2)).setCell ⟨b, 8, none⟩ (.int .i64 an3)).setCell ⟨b, 9, none⟩ (.slice r3 s3 j3)) := set10 (b := b) hl12' (by omega) (.slice a3 m3 k3) (.bool false) (.int .i64 0) (.int .i64 0) (.int .i64 0) (.slice c3 0 d3) (.int .i64 0) (.int .i64 ct2) (.int .i64 an3) (.slice r3 s3 j3)
          clear hk5' hk6' hd7' hl8' hd3 hb11 p0 p1 p2 p3 p4 p5 p6 p7 p8 p9 zq0 zq1 zq2 zq3 zq4 zq5 zq6 zq7 zq8 zq9 HR2
          generalize (((((((((w11.setCell ⟨b, 0, none⟩ (.slice a3 m3 k3)).setCell ⟨b, 1, none⟩ (.bool false)).setCell ⟨b, 2, none⟩ (.int .i64 0)).setCell ⟨b, 3, none⟩ (.int .i64 0)).setCell ⟨b, 4, none⟩ (.int .i64 0)).setCell ⟨b, 5, none⟩ (.slice c3 0 d3)).setCell ⟨b, 6, none⟩ (.int .i64 0)).setCell ⟨b, 7, none⟩ (.int .i64 ct2)).setCell ⟨b, 8, none⟩ (.int .i64 an3)).setCell ⟨b, 9, none⟩ (.slice r3 s3 j3) = W12 at *
          have HL12 := Lib.hid hl16'
          obtain ⟨⟨p0, p1, p2, p3, p4, p5, p6, p7, p8, p9⟩, -⟩ := Bk.fd hk13'
          obtain ⟨c0, c1, c2, c3'⟩ : W12.cell? ⟨wc.heap.size, 0, none⟩ = some (.int .i64 (2)) ∧ W12.cell? ⟨wc.heap.size, 1, none⟩ = some (.int .i64 0) ∧ W12.cell? ⟨wc.heap.size, 2, none⟩ = some (.int .i64 0) ∧ W12.cell? ⟨wc.heap.size, 3, none⟩ = some (.slice none 0 0) := ⟨hk14'.cell 0, hk14'.cell 1, hk14'.cell 2, hk14'.cell 3⟩
          have HD13 : Hid (Calls Try.prog 11 #[.agg #[.slice a3 m3 k3, .bool false, .int .i64 0, .int .i64 0, .int .i64 0, .slice c3 0 d3, .int .i64 0, .int .i64 ct2, .int .i64 an3, .slice r3 s3 j3], .agg #[.int .i64 (2), .int .i64 0, .int .i64 0, .slice none 0 0]] W12 fun e w' => ∃ a13 k13 c13 d13 r13 q13 es13, e = .returned (.tuple #[.agg #[.slice a13 0 k13, .bool false, .int .i64 0, .int .i64 0, .int .i64 0, .slice c13 0 d13, .int .i64 0, .int .i64 0, .int .i64 0, .slice r13 0 q13], .int .i64 19]) ∧ Dw W12.heap.size (fun x => x = b) w' (.slice a13 0 k13) (.slice c13 0 d13) (.slice r13 0 q13) es13 [] [] [] ∧ Below W12.heap.size W12 w') := do_f (X := fun x => x = b) false 0 0 0 0 ct2 an3 (2) 0 0 (hd15'.here) (Av.mono hd15' fun _ h => h.e) (Sl.nil _ _) (by have := hd15'.here.n; have := (Dk.valid_iff.1 HV3.out).1; omega) (by simp) HSZ3.out (by simp) (Dk.give_old HV3.out hT1 hT2) rfl rfl rfl
          go_wp2_with (go_at_call 11; (with_reducible refine HD13.out.mono ?_); rintro e w13 ⟨a13, k13, c13, d13, r13, q13, es13, rfl, -, hb13⟩)
          go_ret
          exact ⟨rfl, (stepAny HL12.out hb13).alloc (stepAny HL12.out hb13).size _⟩
        · have hT1 : Dk.prop T0 = true := prop_mk (by omega) (by omega)
          have hT2 : T0 < ct2 := by omega
          clear hT0
          go_upto_region 9 with fail
          have hk8 := hk7
          have ho8 := ho7
          have hd8 : Dv (fun x => x = b) W7 (.slice a n0 k) (.slice c n1 d) (.slice r n2 q') es2 bs2 cd2 ld2 := hd7
          have hl8 := hl7
          clear hk7 ho7 hdd7 hd7 hl7 g0 g1 g2 g3 p0 p1 p2 p3 p4 p5 p6 p7 p8 p9
          generalize W7 = W8 at *
          have HL8 := Lib.hid hl8
          obtain ⟨⟨p0, p1, p2, p3, p4, p5, p6, p7, p8, p9⟩, -⟩ := Bk.fd hk8
          obtain ⟨c0, c1, c2, c3⟩ : W8.cell? ⟨wc.heap.size, 0, none⟩ = some (.int .i64 (T0)) ∧ W8.cell? ⟨wc.heap.size, 1, none⟩ = some (.int .i64 0) ∧ W8.cell? ⟨wc.heap.size, 2, none⟩ = some (.int .i64 0) ∧ W8.cell? ⟨wc.heap.size, 3, none⟩ = some (.slice none 0 0) := ⟨ho8.cell 0, ho8.cell 1, ho8.cell 2, ho8.cell 3⟩
          have HD9 : Hid (Calls Try.prog 11 #[.agg #[.slice a n0 k, .bool true, .int .i64 ct2, .int .i64 co2, .int .i64 cp2, .slice c n1 d, .int .i64 l2, .int .i64 lt2, .int .i64 la2, .slice r n2 q'], .agg #[.int .i64 (T0), .int .i64 0, .int .i64 0, .slice none 0 0]] W8 fun e w' => ∃ a9 k9 c9 d9 r9 q9 es9, e = .returned (.tuple #[.agg #[.slice a9 0 k9, .bool false, .int .i64 0, .int .i64 0, .int .i64 0, .slice c9 0 d9, .int .i64 0, .int .i64 0, .int .i64 0, .slice r9 0 q9], .int .i64 19]) ∧ Dw W8.heap.size (fun x => x = b) w' (.slice a9 0 k9) (.slice c9 0 d9) (.slice r9 0 q9) es9 [] [] [] ∧ Below W8.heap.size W8 w') := do_f (X := fun x => x = b) true ct2 co2 cp2 l2 lt2 la2 (T0) 0 0 (hd8.here) (Av.mono hd8 fun _ h => h.e) (Sl.nil _ _) (by have := hd8.here.n; omega) (by omega) (by omega) (by simp) (Dk.give_old HV1.out hT1 hT2) rfl rfl rfl
          go_upto_region 10 with (go_at_call 11; (with_reducible refine HD9.out.mono ?_); rintro e w9 ⟨a9, k9, c9, d9, r9, q9, es9, rfl, -, hb9⟩)
          have hk1' : Bk w9 b 39 [.slice a n0 k, .bool true, .int .i64 ct2, .int .i64 co2, .int .i64 cp2, .slice c n1 d, .int .i64 l2, .int .i64 lt2, .int .i64 la2, .slice r n2 q'] := hk8.below hb9 hk8.lt
          have hk2' : Bk w9 wc.heap.size 25 [.int .i64 (T0), .int .i64 0, .int .i64 0, .slice none 0 0] := ho8.below hb9 ho8.lt
          have hd3' : Dv (fun x => x = b) w9 (.slice a n0 k) (.slice c n1 d) (.slice r n2 q') es2 bs2 cd2 ld2 := hd8.below hb9
          have hl4' : Below w.heap.size w w9 := stepAny hl8 hb9
          have hk5' : Bk (w9.alloc (.cells #[.slice a9 0 k9, .bool false, .int .i64 0, .int .i64 0, .int .i64 0, .slice c9 0 d9, .int .i64 0, .int .i64 0, .int .i64 0, .slice r9 0 q9] 39 (0, 0))) b 39 [.slice a n0 k, .bool true, .int .i64 ct2, .int .i64 co2, .int .i64 cp2, .slice c n1 d, .int .i64 l2, .int .i64 lt2, .int .i64 la2, .slice r n2 q'] := hk1'.alloc _
          have hk6' : Bk (w9.alloc (.cells #[.slice a9 0 k9, .bool false, .int .i64 0, .int .i64 0, .int .i64 0, .slice c9 0 d9, .int .i64 0, .int .i64 0, .int .i64 0, .slice r9 0 q9] 39 (0, 0))) wc.heap.size 25 [.int .i64 (T0), .int .i64 0, .int .i64 0, .slice none 0 0] := hk2'.alloc _
          have hd7' : Dv (fun x => x = b) (w9.alloc (.cells #[.slice a9 0 k9, .bool false, .int .i64 0, .int .i64 0, .int .i64 0, .slice c9 0 d9, .int .i64 0, .int .i64 0, .int .i64 0, .slice r9 0 q9] 39 (0, 0))) (.slice a n0 k) (.slice c n1 d) (.slice r n2 q') es2 bs2 cd2 ld2 := hd3'.below (low_alloc _ _)
          have hl8' : Below w.heap.size w (w9.alloc (.cells #[.slice a9 0 k9, .bool false, .int .i64 0, .int .i64 0, .int .i64 0, .slice c9 0 d9, .int .i64 0, .int .i64 0, .int .i64 0, .slice r9 0 q9] 39 (0, 0))) := hl4'.alloc hl4'.size _
          have hk9' : Bk (w9.alloc (.cells #[.slice a9 0 k9, .bool false, .int .i64 0, .int .i64 0, .int .i64 0, .slice c9 0 d9, .int .i64 0, .int .i64 0, .int .i64 0, .slice r9 0 q9] 39 (0, 0))) w9.heap.size 39 [.slice a9 0 k9, .bool false, .int .i64 0, .int .i64 0, .int .i64 0, .slice c9 0 d9, .int .i64 0, .int .i64 0, .int .i64 0, .slice r9 0 q9] := Bk.newAt _ _ [.slice a9 0 k9, .bool false, .int .i64 0, .int .i64 0, .int .i64 0, .slice c9 0 d9, .int .i64 0, .int .i64 0, .int .i64 0, .slice r9 0 q9] rfl
          clear hk8 ho8 hd8 hl8 hb9 p0 p1 p2 p3 p4 p5 p6 p7 p8 p9 c0 c1 c2 c3 HD9
          generalize w9.alloc (.cells #[.slice a9 0 k9, .bool false, .int .i64 0, .int .i64 0, .int .i64 0, .slice c9 0 d9, .int .i64 0, .int .i64 0, .int .i64 0, .slice r9 0 q9] 39 (0, 0)) = W10 at *
          have hR := run_w true ct2 co2 cp2 l2 lt2 la2 hd7' (fun x h => h ▸ hk5'.lt) ⟨by show bs2.length ≤ 1000; omega, by show cd2.length ≤ 1000; omega, by show ld2.length ≤ 1000; omega⟩
          rw [HRUN.out] at hR
          have HR2 : Hid (Calls Try.prog 13 #[.agg #[.slice a n0 k, .bool true, .int .i64 ct2, .int .i64 co2, .int .i64 cp2, .slice c n1 d, .int .i64 l2, .int .i64 lt2, .int .i64 la2, .slice r n2 q']] W10 fun e w' => ∃ a3 m3 k3 c3 d3 r3 s3 j3 u5 m5 v5 es3, e = .returned (.tuple #[.agg #[.slice a3 m3 k3, .bool false, .int .i64 0, .int .i64 0, .int .i64 0, .slice c3 0 d3, .int .i64 0, .int .i64 ct2, .int .i64 an3, .slice r3 s3 j3], .agg #[.int .i64 ct2, .int .i64 an3, .slice u5 m5 v5], .bool true]) ∧ Dv (fun x => x = b) w' (.slice a3 m3 k3) (.slice c3 0 d3) (.slice r3 s3 j3) es3 bs3 [] dd3 ∧ Below W10.heap.size W10 w') :=
            hR.mono fun e w' h => by
              obtain ⟨ub, uc, ul, es3, u, rfl, hd3, hs3, hb3⟩ := h
              obtain ⟨a3, k3, rfl, -⟩ := id hd3.here.r
              obtain ⟨c3, d3, rfl, -⟩ := id hd3.here.c
              obtain ⟨r3, q3, rfl, -⟩ := id hd3.here.l
              obtain ⟨u5, v5, rfl, -⟩ := id hs3.here
              exact ⟨_, _, _, _, _, _, _, _, _, _, _, es3, rfl, hd3, hb3⟩
          clear hR
          obtain ⟨⟨p0, p1, p2, p3, p4, p5, p6, p7, p8, p9⟩, -⟩ := Bk.fd hk5'
          go_upto_region 11 with (go_at_call 13; (with_reducible refine HR2.out.mono ?_); rintro e w11 ⟨a3, m3, k3, c3, d3, r3, s3, j3, u5, m5, v5, es3, rfl, hd3, hb11⟩; clear p0 p1 p2 p3 p4 p5 p6 p7 p8 p9; obtain ⟨⟨p0, p1, p2, p3, p4, p5, p6, p7, p8, p9⟩, zq0, zq1, zq2, zq3, zq4, zq5, zq6, zq7, zq8, zq9⟩ := Bk.fd (hk5'.below hb11 hk5'.lt))
          have hk10' : Bk w11 b 39 [.slice a n0 k, .bool true, .int .i64 ct2, .int .i64 co2, .int .i64 cp2, .slice c n1 d, .int .i64 l2, .int .i64 lt2, .int .i64 la2, .slice r n2 q'] := hk5'.below hb11 hk5'.lt
          have hk11' : Bk w11 wc.heap.size 25 [.int .i64 (T0), .int .i64 0, .int .i64 0, .slice none 0 0] := hk6'.below hb11 hk6'.lt
          have hl12' : Below w.heap.size w w11 := stepAny hl8' hb11
          have hk13' : Bk ((((((((((w11.setCell ⟨b, 0, none⟩ (.slice a3 m3 k3)).setCell ⟨b, 1, none⟩ (.bool false)).setCell ⟨b, 2, none⟩ (.int .i64 0)).setCell ⟨b, 3, none⟩ (.int .i64 0)).setCell ⟨b, 4, none⟩ (.int .i64 0)).setCell ⟨b, 5, none⟩ (.slice c3 0 d3)).setCell ⟨b, 6, none⟩ (.int .i64 0)).setCell ⟨b, 7, none⟩ (.int .i64 ct2)).setCell ⟨b, 8, none⟩ (.int .i64 an3)).setCell ⟨b, 9, none⟩ (.slice r3 s3 j3)) b 39 [.slice a3 m3 k3, .bool false, .int .i64 0, .int .i64 0, .int .i64 0, .slice c3 0 d3, .int .i64 0, .int .i64 ct2, .int .i64 an3, .slice r3 s3 j3] := hk10'.set10 (.slice a3 m3 k3) (.bool false) (.int .i64 0) (.int .i64 0) (.int .i64 0) (.slice c3 0 d3) (.int .i64 0) (.int .i64 ct2) (.int .i64 an3) (.slice r3 s3 j3)
          have hk14' : Bk ((((((((((w11.setCell ⟨b, 0, none⟩ (.slice a3 m3 k3)).setCell ⟨b, 1, none⟩ (.bool false)).setCell ⟨b, 2, none⟩ (.int .i64 0)).setCell ⟨b, 3, none⟩ (.int .i64 0)).setCell ⟨b, 4, none⟩ (.int .i64 0)).setCell ⟨b, 5, none⟩ (.slice c3 0 d3)).setCell ⟨b, 6, none⟩ (.int .i64 0)).setCell ⟨b, 7, none⟩ (.int .i64 ct2)).setCell ⟨b, 8, none⟩ (.int .i64 an3)).setCell ⟨b, 9, none⟩ (.slice r3 s3 j3)) wc.heap.size 25 [.int .i64 (T0), .int .i64 0, .int .i64 0, .slice none 0 0] := hk11'.keep (set10_heap (W := w11) (b := b) (by omega) (.slice a3 m3 k3) (.bool false) (.int .i64 0) (.int .i64 0) (.int .i64 0) (.slice c3 0 d3) (.int .i64 0) (.int .i64 ct2) (.int .i64 an3) (.slice r3 s3 j3))
          have hd15' : Dv (fun x => x = b) ((((((((((w11.setCell ⟨b, 0, none⟩ (.slice a3 m3 k3)).setCell ⟨b, 1, none⟩ (.bool false)).setCell ⟨b, 2, none⟩ (.int .i64 0)).setCell ⟨b, 3, none⟩ (.int .i64 0)).setCell ⟨b, 4, none⟩ (.int .i64 0)).setCell ⟨b, 5, none⟩ (.slice c3 0 d3)).setCell ⟨b, 6, none⟩ (.int .i64 0)).setCell ⟨b, 7, none⟩ (.int .i64 ct2)).setCell ⟨b, 8, none⟩ (.int .i64 an3)).setCell ⟨b, 9, none⟩ (.slice r3 s3 j3)) (.slice a3 m3 k3) (.slice c3 0 d3) (.slice r3 s3 j3) es3 bs3 [] dd3 := hd3.set10 (b := b) rfl (.slice a3 m3 k3) (.bool false) (.int .i64 0) (.int .i64 0) (.int .i64 0) (.slice c3 0 d3) (.int .i64 0) (.int .i64 ct2) (.int .i64 an3) (.slice r3 s3 j3)
          have hl16' : Below w.heap.size w ((((((((((w11.setCell ⟨b, 0, none⟩ (.slice a3 m3 k3)).setCell ⟨b, 1, none⟩ (.bool false)).setCell ⟨b, 2, none⟩ (.int .i64 0)).setCell ⟨b, 3, none⟩ (.int .i64 0)).setCell ⟨b, 4, none⟩ (.int .i64 0)).setCell ⟨b, 5, none⟩ (.slice c3 0 d3)).setCell ⟨b, 6, none⟩ (.int .i64 0)).setCell ⟨b, 7, none⟩ (.int .i64 ct2)).setCell ⟨b, 8, none⟩ (.int .i64 an3)).setCell ⟨b, 9, none⟩ (.slice r3 s3 j3)) := set10 (b := b) hl12' (by omega) (.slice a3 m3 k3) (.bool false) (.int .i64 0) (.int .i64 0) (.int .i64 0) (.slice c3 0 d3) (.int .i64 0) (.int .i64 ct2) (.int .i64 an3) (.slice r3 s3 j3)
          clear hk5' hk6' hd7' hl8' hd3 hb11 p0 p1 p2 p3 p4 p5 p6 p7 p8 p9 zq0 zq1 zq2 zq3 zq4 zq5 zq6 zq7 zq8 zq9 HR2
          generalize (((((((((w11.setCell ⟨b, 0, none⟩ (.slice a3 m3 k3)).setCell ⟨b, 1, none⟩ (.bool false)).setCell ⟨b, 2, none⟩ (.int .i64 0)).setCell ⟨b, 3, none⟩ (.int .i64 0)).setCell ⟨b, 4, none⟩ (.int .i64 0)).setCell ⟨b, 5, none⟩ (.slice c3 0 d3)).setCell ⟨b, 6, none⟩ (.int .i64 0)).setCell ⟨b, 7, none⟩ (.int .i64 ct2)).setCell ⟨b, 8, none⟩ (.int .i64 an3)).setCell ⟨b, 9, none⟩ (.slice r3 s3 j3) = W12 at *
          have HL12 := Lib.hid hl16'
          obtain ⟨⟨p0, p1, p2, p3, p4, p5, p6, p7, p8, p9⟩, -⟩ := Bk.fd hk13'
          obtain ⟨c0, c1, c2, c3'⟩ : W12.cell? ⟨wc.heap.size, 0, none⟩ = some (.int .i64 (T0)) ∧ W12.cell? ⟨wc.heap.size, 1, none⟩ = some (.int .i64 0) ∧ W12.cell? ⟨wc.heap.size, 2, none⟩ = some (.int .i64 0) ∧ W12.cell? ⟨wc.heap.size, 3, none⟩ = some (.slice none 0 0) := ⟨hk14'.cell 0, hk14'.cell 1, hk14'.cell 2, hk14'.cell 3⟩
          have HD13 : Hid (Calls Try.prog 11 #[.agg #[.slice a3 m3 k3, .bool false, .int .i64 0, .int .i64 0, .int .i64 0, .slice c3 0 d3, .int .i64 0, .int .i64 ct2, .int .i64 an3, .slice r3 s3 j3], .agg #[.int .i64 (T0), .int .i64 0, .int .i64 0, .slice none 0 0]] W12 fun e w' => ∃ a13 k13 c13 d13 r13 q13 es13, e = .returned (.tuple #[.agg #[.slice a13 0 k13, .bool false, .int .i64 0, .int .i64 0, .int .i64 0, .slice c13 0 d13, .int .i64 0, .int .i64 0, .int .i64 0, .slice r13 0 q13], .int .i64 19]) ∧ Dw W12.heap.size (fun x => x = b) w' (.slice a13 0 k13) (.slice c13 0 d13) (.slice r13 0 q13) es13 [] [] [] ∧ Below W12.heap.size W12 w') := do_f (X := fun x => x = b) false 0 0 0 0 ct2 an3 (T0) 0 0 (hd15'.here) (Av.mono hd15' fun _ h => h.e) (Sl.nil _ _) (by have := hd15'.here.n; have := (Dk.valid_iff.1 HV3.out).1; omega) (by simp) HSZ3.out (by simp) (Dk.give_old HV3.out hT1 hT2) rfl rfl rfl
          go_wp2_with (go_at_call 11; (with_reducible refine HD13.out.mono ?_); rintro e w13 ⟨a13, k13, c13, d13, r13, q13, es13, rfl, -, hb13⟩)
          go_ret
          exact ⟨rfl, (stepAny HL12.out hb13).alloc (stepAny HL12.out hb13).size _⟩
      · have hne : (ec != 0) = true := by simpa using hec
        clear hec hdv
        go_wp2_with fail
        go_ret
        exact ⟨rfl, hlow5⟩
end Go.Proofs.Yteeoonoccklhmaa
