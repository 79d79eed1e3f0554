/-
  The walk of DiskDo (printed by gen/mk11ddo.py).
-/
import Derived.Test.YteeoonoccklhmaaLans
import Derived.Test.YteeoonoccklhmaaEqd
import Derived.Test.YteeoonoccklhmaaRdo
namespace Go.Proofs.Yteeoonoccklhmaa
open Go.RowKit
set_option linter.unusedVariables false

set_option maxRecDepth 100000 in
set_option maxHeartbeats 8000000 in
theorem ldo_w {w : World} {v0 v1 : Value} (h0 : IsDisk w v0) (h1 : IsCmd w v1) :
    Calls Try.prog 5 #[v0, v1] w fun e w' => e = .returned (.bool true) ∧ Below w.heap.size w w' := by
  obtain ⟨o, ct, co, cp, l, lt, la, ub, uc, ul, bs, cd, ld, rfl, hdr, -⟩ := h0
  obtain ⟨t, q, p, ux, xs, rfl, hx, -, -, hp64⟩ := h1
  obtain ⟨es, hde⟩ := hdr.de
  obtain ⟨aub, cub, hub, -⟩ := id hde.r
  obtain ⟨auc, cuc, huc, -⟩ := id hde.c
  obtain ⟨aul, cul, hul, -⟩ := id hde.l
  obtain ⟨ax, cx, hux, -⟩ := id hx
  obtain ⟨nb, hnb⟩ : ∃ n, n = es.length := ⟨_, rfl⟩
  rw [← hnb] at hub
  subst hub huc hul hux
  have HNB := Lib.hid hnb
  have HDE := Lib.hid hde
  have HX := Lib.hid hx
  have HDR := Lib.hid hdr
  have HP64 := Lib.hid hp64
  have hk0 : Keeps w [(w.heap.size + 1, 25, [.int .i64 t, .int .i64 q, .int .i64 p, .slice ax xs.length cx]), (w.heap.size, 31, [.slice aub nb cub, .bool o, .int .i64 ct, .int .i64 co, .int .i64 cp, .slice auc cd.length cuc, .int .i64 l, .int .i64 lt, .int .i64 la, .slice aul ld.length cul])] ((w.alloc (.cells #[.slice aub nb cub, .bool o, .int .i64 ct, .int .i64 co, .int .i64 cp, .slice auc cd.length cuc, .int .i64 l, .int .i64 lt, .int .i64 la, .slice aul ld.length cul] 31 (0, 0))).alloc (.cells #[.int .i64 t, .int .i64 q, .int .i64 p, .slice ax xs.length cx] 25 (0, 0))) := ((Keeps.start w).add 31 [.slice aub nb cub, .bool o, .int .i64 ct, .int .i64 co, .int .i64 cp, .slice auc cd.length cuc, .int .i64 l, .int .i64 lt, .int .i64 la, .slice aul ld.length cul] rfl).add 25 [.int .i64 t, .int .i64 q, .int .i64 p, .slice ax xs.length cx] (by simp)
  have HC0 : Hid (∀ W, Keeps w [(w.heap.size + 1, 25, [.int .i64 t, .int .i64 q, .int .i64 p, .slice ax xs.length cx]), (w.heap.size, 31, [.slice aub nb cub, .bool o, .int .i64 ct, .int .i64 co, .int .i64 cp, .slice auc cd.length cuc, .int .i64 l, .int .i64 lt, .int .i64 la, .slice aul ld.length cul])] W → (W.cell? ⟨w.heap.size, 0, none⟩ = some (.slice aub nb cub) ∧ W.cell? ⟨w.heap.size, 1, none⟩ = some (.bool o) ∧ W.cell? ⟨w.heap.size, 2, none⟩ = some (.int .i64 ct) ∧ W.cell? ⟨w.heap.size, 3, none⟩ = some (.int .i64 co) ∧ W.cell? ⟨w.heap.size, 4, none⟩ = some (.int .i64 cp) ∧ W.cell? ⟨w.heap.size, 5, none⟩ = some (.slice auc cd.length cuc) ∧ W.cell? ⟨w.heap.size, 6, none⟩ = some (.int .i64 l) ∧ W.cell? ⟨w.heap.size, 7, none⟩ = some (.int .i64 lt) ∧ W.cell? ⟨w.heap.size, 8, none⟩ = some (.int .i64 la) ∧ W.cell? ⟨w.heap.size, 9, none⟩ = some (.slice aul ld.length cul)) ∧ (W.cell? ⟨(w.heap.size + 1), 0, none⟩ = some (.int .i64 t) ∧ W.cell? ⟨(w.heap.size + 1), 1, none⟩ = some (.int .i64 q) ∧ W.cell? ⟨(w.heap.size + 1), 2, none⟩ = some (.int .i64 p) ∧ W.cell? ⟨(w.heap.size + 1), 3, none⟩ = some (.slice ax xs.length cx))) := fun W hW => by
    have e1 := hW.2 _ (.head _)
    have e0 := hW.2 _ (.tail _ (.head _))
    exact ⟨⟨e0.cell 0, e0.cell 1, e0.cell 2, e0.cell 3, e0.cell 4, e0.cell 5, e0.cell 6, e0.cell 7, e0.cell 8, e0.cell 9⟩, e1.cell 0, e1.cell 1, e1.cell 2, e1.cell 3⟩
  have HF : Hid (∀ W, Below w.heap.size w W → Calls Try.prog 10 #[.agg #[.slice aub nb cub, .bool o, .int .i64 ct, .int .i64 co, .int .i64 cp, .slice auc cd.length cuc, .int .i64 l, .int .i64 lt, .int .i64 la, .slice aul ld.length cul], .agg #[.int .i64 t, .int .i64 q, .int .i64 p, .slice ax xs.length cx]] W fun e w' => e = .returned (.bool (Dk.few (bs, (o, (ct, co, cp, cd), l, (lt, la, ld))) && decide (xs.length ≤ 300))) ∧ Below W.heap.size W w') := fun W hW => lfew_w o ct co cp l lt la t q p (hdr.below hW (Nat.le_refl _)) (hx.below hW (Nat.le_refl _))
  have HK0 := Lib.hid hk0
  clear hk0 hdr hde hx hnb hp64
  cases hfw : (Dk.few (bs, (o, (ct, co, cp, cd), l, (lt, la, ld))) && decide (xs.length ≤ 300)) with
  | false =>
    rw [hfw] at HF
    clear hfw
    go_enter Try.func5, Try.ntmps5
    go_wp2_with (first
      | (go_at_call 10; (with_reducible refine (HF.out _ hk1.lo).mono ?_); rintro e w2 ⟨rfl, hb2⟩; have hk2 := hk1.step hb2; have tok := True.intro)
      | (go_at_call 9; have _t := tok; refine (awake_w w2).mono ?_; rintro e w3 ⟨rfl, hb3⟩)
      | (go_at_call 9; refine (awake_w _).mono ?_; rintro e w1 ⟨rfl, hb1⟩; have hk1 := HK0.out.step hb1; obtain ⟨⟨p0, p1, p2, p3, p4, p5, p6, p7, p8, p9⟩, y0, y1, y2, y3⟩ := HC0.out _ hk1))
    go_ret
    exact ⟨rfl, (hk2.step hb3).1⟩
  | true =>
    rw [hfw] at HF
    rw [Bool.and_eq_true, decide_eq_true_eq] at hfw
    obtain ⟨hf1, h300⟩ := hfw
    obtain ⟨hz1, hz2, hz3⟩ := few_sized hf1
    clear hf1
    obtain ⟨⟨bs2, o2, ⟨ct2, co2, cp2, cd2⟩, l2, lt2, la2, ld2⟩, ec, hg⟩ : ∃ (s : Dk.St) (e : Int), Dk.give (bs, (o, (ct, co, cp, cd), l, (lt, la, ld))) (t, q, p, xs) = (s, e) := ⟨_, _, rfl⟩
    have HG := Lib.hid hg
    obtain ⟨n0, hn0⟩ : ∃ n, n = bs2.length := ⟨_, rfl⟩
    obtain ⟨n1, hn1⟩ : ∃ n, n = cd2.length := ⟨_, rfl⟩
    obtain ⟨n2, hn2⟩ : ∃ n, n = ld2.length := ⟨_, rfl⟩
    have HDO : Hid (∀ W, Below w.heap.size w W → Calls Try.prog 11 #[.agg #[.slice aub nb cub, .bool o, .int .i64 ct, .int .i64 co, .int .i64 cp, .slice auc cd.length cuc, .int .i64 l, .int .i64 lt, .int .i64 la, .slice aul ld.length cul], .agg #[.int .i64 t, .int .i64 q, .int .i64 p, .slice ax xs.length cx]] W fun e w' => ∃ a k c d r q' es2, e = .returned (.tuple #[.agg #[.slice a n0 k, .bool o2, .int .i64 ct2, .int .i64 co2, .int .i64 cp2, .slice c n1 d, .int .i64 l2, .int .i64 lt2, .int .i64 la2, .slice r n2 q'], .int .i64 ec]) ∧ Dw W.heap.size (fun x => w.heap.size ≤ x) w' (.slice a n0 k) (.slice c n1 d) (.slice r n2 q') es2 bs2 cd2 ld2 ∧ Below W.heap.size W w') := fun W hW =>
      do_f (X := fun x => w.heap.size ≤ x) o ct co cp l lt la t q p (HDE.out.below hW (Nat.le_refl _)) ((Av.start (X := fun x => w.heap.size ≤ x) (W := w) (P := fun W => ∀ i (h : i < es.length) (h' : i < bs.length), Sl eb W (et es[i]) bs[i]) (fun W' hk i h h' => (HDE.out.keep hk).e i h h') (fun x h => h)).below hW) (HX.out.below hW (Nat.le_refl _)) (by have := HDE.out.n; omega) (by omega) (by omega) (by omega) HG.out hn0.symm hn1.symm hn2.symm
    have HTO := Lib.hid (fun W => to_w o ct co cp l lt la aub auc aul nb cub cd.length cuc ld.length cul W)
    have HN0 := Lib.hid hn0
    have HN1 := Lib.hid hn1
    have HN2 := Lib.hid hn2
    clear hg hn0 hn1 hn2
    go_enter Try.func5, Try.ntmps5
    go_upto_region 3 with (first
      | (go_at_call 10; (with_reducible refine (HF.out _ hk1.lo).mono ?_); rintro e w2 ⟨rfl, hb2⟩; have hk2 := hk1.step hb2)
      | (go_at_call 9; refine (awake_w _).mono ?_; rintro e w1 ⟨rfl, hb1⟩; have hk1 := HK0.out.step hb1; obtain ⟨⟨p0, p1, p2, p3, p4, p5, p6, p7, p8, p9⟩, y0, y1, y2, y3⟩ := HC0.out _ hk1))
    clear p0 p1 p2 p3 p4 p5 p6 p7 p8 p9 y0 y1 y2 y3 hb1 hk1 hb2
    have HK2 := Lib.hid hk2
    have HQ : Hid (∀ W, Below w2.heap.size w2 W → W.cell? ⟨w.heap.size, 0, none⟩ = some (.slice aub nb cub) ∧ W.cell? ⟨w.heap.size, 1, none⟩ = some (.bool o) ∧ W.cell? ⟨w.heap.size, 2, none⟩ = some (.int .i64 ct) ∧ W.cell? ⟨w.heap.size, 3, none⟩ = some (.int .i64 co) ∧ W.cell? ⟨w.heap.size, 4, none⟩ = some (.int .i64 cp) ∧ W.cell? ⟨w.heap.size, 5, none⟩ = some (.slice auc cd.length cuc) ∧ W.cell? ⟨w.heap.size, 6, none⟩ = some (.int .i64 l) ∧ W.cell? ⟨w.heap.size, 7, none⟩ = some (.int .i64 lt) ∧ W.cell? ⟨w.heap.size, 8, none⟩ = some (.int .i64 la) ∧ W.cell? ⟨w.heap.size, 9, none⟩ = some (.slice aul ld.length cul) ∧ W.cell? ⟨(w.heap.size + 1), 0, none⟩ = some (.int .i64 t) ∧ W.cell? ⟨(w.heap.size + 1), 1, none⟩ = some (.int .i64 q) ∧ W.cell? ⟨(w.heap.size + 1), 2, none⟩ = some (.int .i64 p) ∧ W.cell? ⟨(w.heap.size + 1), 3, none⟩ = some (.slice ax xs.length cx)) := fun W hW => by
      obtain ⟨⟨p0, p1, p2, p3, p4, p5, p6, p7, p8, p9⟩, y0, y1, y2, y3⟩ := HC0.out _ (HK2.out.step hW)
      exact ⟨p0, p1, p2, p3, p4, p5, p6, p7, p8, p9, y0, y1, y2, y3⟩
    have hlow2 := hk2.1
    have HL2 := Lib.hid hlow2
    have hs0 : w.heap.size + 1 < w2.heap.size := (hk2.2 _ (.head _)).lt
    clear hk2 hlow2
    go_cut [5, 6] (fun s5 s6 W' => GotD w2 o2 ct2 co2 cp2 l2 lt2 la2 ec n0 n1 n2 bs2 cd2 ld2 s5 s6 W')
    case first =>
      have hl0 := low_drew w2
      obtain ⟨p0, p1, p2, p3, p4, p5, p6, p7, p8, p9, y0, y1, y2, y3⟩ := HQ.out _ hl0
      have hle : Below w2.heap.size w2 (w2.alloc (.cells #[.slice none 0 0, .bool false, .int .i64 0, .int .i64 0, .int .i64 0, .slice none 0 0, .int .i64 0, .int .i64 0, .int .i64 0, .slice none 0 0] 39 (0, 0))).drew := low_adrew w2 _
      obtain ⟨e0, e1, e2, e3, e4, e5, e6, e7, e8, e9, dd0, dd1, dd2, dd3⟩ := HQ.out _ hle
      go_region_held3 (fun w' => w'.cell? ⟨w.heap.size, 0, none⟩ = some (.slice aub nb cub) ∧ w'.cell? ⟨w.heap.size, 1, none⟩ = some (.bool o) ∧ w'.cell? ⟨w.heap.size, 2, none⟩ = some (.int .i64 ct) ∧ w'.cell? ⟨w.heap.size, 3, none⟩ = some (.int .i64 co) ∧ w'.cell? ⟨w.heap.size, 4, none⟩ = some (.int .i64 cp) ∧ w'.cell? ⟨w.heap.size, 5, none⟩ = some (.slice auc cd.length cuc) ∧ w'.cell? ⟨w.heap.size, 6, none⟩ = some (.int .i64 l) ∧ w'.cell? ⟨w.heap.size, 7, none⟩ = some (.int .i64 lt) ∧ w'.cell? ⟨w.heap.size, 8, none⟩ = some (.int .i64 la) ∧ w'.cell? ⟨w.heap.size, 9, none⟩ = some (.slice aul ld.length cul) ∧ w'.cell? ⟨(w.heap.size + 1), 0, none⟩ = some (.int .i64 t) ∧ w'.cell? ⟨(w.heap.size + 1), 1, none⟩ = some (.int .i64 q) ∧ w'.cell? ⟨(w.heap.size + 1), 2, none⟩ = some (.int .i64 p) ∧ w'.cell? ⟨(w.heap.size + 1), 3, none⟩ = some (.slice ax xs.length cx)) (first | exact ⟨by with_reducible assumption, by with_reducible assumption, by with_reducible assumption, by with_reducible assumption, by with_reducible assumption, by with_reducible assumption, by with_reducible assumption, by with_reducible assumption, by with_reducible assumption, by with_reducible assumption, by with_reducible assumption, by with_reducible assumption, by with_reducible assumption, by with_reducible assumption⟩ | go_keep | exact ⟨(set10_cell (by omega) _ _ _ _ _ _ _ _ _ _).trans (by with_reducible assumption), (set10_cell (by omega) _ _ _ _ _ _ _ _ _ _).trans (by with_reducible assumption), (set10_cell (by omega) _ _ _ _ _ _ _ _ _ _).trans (by with_reducible assumption), (set10_cell (by omega) _ _ _ _ _ _ _ _ _ _).trans (by with_reducible assumption), (set10_cell (by omega) _ _ _ _ _ _ _ _ _ _).trans (by with_reducible assumption), (set10_cell (by omega) _ _ _ _ _ _ _ _ _ _).trans (by with_reducible assumption), (set10_cell (by omega) _ _ _ _ _ _ _ _ _ _).trans (by with_reducible assumption), (set10_cell (by omega) _ _ _ _ _ _ _ _ _ _).trans (by with_reducible assumption), (set10_cell (by omega) _ _ _ _ _ _ _ _ _ _).trans (by with_reducible assumption), (set10_cell (by omega) _ _ _ _ _ _ _ _ _ _).trans (by with_reducible assumption), (set10_cell (by omega) _ _ _ _ _ _ _ _ _ _).trans (by with_reducible assumption), (set10_cell (by omega) _ _ _ _ _ _ _ _ _ _).trans (by with_reducible assumption), (set10_cell (by omega) _ _ _ _ _ _ _ _ _ _).trans (by with_reducible assumption), (set10_cell (by omega) _ _ _ _ _ _ _ _ _ _).trans (by with_reducible assumption)⟩) ((first
        | (go_at_call 12; (with_reducible refine (HTO.out _).mono ?_); rintro e w3 ⟨rfl, hb3⟩; have hl3 := stepAny (by first | with_reducible exact low_drew w2 | with_reducible exact low_adrew w2 _) hb3; obtain ⟨fa0, fa1, fa2, fa3, fa4, fa5, fa6, fa7, fa8, fa9, fb0, fb1, fb2, fb3⟩ := HQ.out w3 hl3; obtain ⟨hc3, hf3⟩ := bcell hb3; (try have hz3 : w2.heap.size < w3.heap.size := (by have := hb3.size; simp at this; omega)); have hs03 : w.heap.size + 1 < w3.heap.size := (by have := hl3.size; omega); have hq3 := HQ.out _ (stepAny hl3 (low_alloc w3 (.cells #[.slice none 0 0, .bool false, .int .i64 0, .int .i64 0, .int .i64 0, .slice none 0 0, .int .i64 0, .int .i64 0, .int .i64 0, .slice none 0 0] 39 (0, 0)))); obtain ⟨ga0, ga1, ga2, ga3, ga4, ga5, ga6, ga7, ga8, ga9, gb0, gb1, gb2, gb3⟩ := hq3)
        | (go_at_call 11; (with_reducible refine (HDO.out _ (stepAny HL2.out (by first | with_reducible exact hl3 | with_reducible exact stepAny hl3 (low_alloc w3 _)))).mono ?_); rintro e w4 ⟨a, k, c, d, r, q', es2, rfl, hdw, hb4⟩; have hl4 := stepAny (by first | with_reducible exact low_refl w3 | with_reducible exact low_alloc w3 _) hb4; have hl4s := stepAny hl3 hl4; obtain ⟨ha0, ha1, ha2, ha3, ha4, ha5, ha6, ha7, ha8, ha9, hx0, hx1, hx2, hx3⟩ := HQ.out w4 hl4s; obtain ⟨hc4, hf4⟩ := bcell hb4; (try have hz4 : w2.heap.size < w4.heap.size := (by have := hb4.size; simp at this; omega)); (try have hz5 : w3.heap.size < w4.heap.size := (by have := hb4.size; simp at this; omega)); have hs04 : w.heap.size + 1 < w4.heap.size := (by have := hl4s.size; omega))))
      all_goals (go_wp2_with fail; go_meet)
      · exact GotD.new hl4s hdw
      · have hkk : Bk (w3.alloc (.cells #[.slice none 0 0, .bool false, .int .i64 0, .int .i64 0, .int .i64 0, .slice none 0 0, .int .i64 0, .int .i64 0, .int .i64 0, .slice none 0 0] 39 (0, 0))) w3.heap.size 39 (dkC (.slice none 0 0) false 0 0 0 (.slice none 0 0) 0 0 0 (.slice none 0 0)) := Bk.newAt w3 _ (dkC _ _ _ _ _ _ _ _ _ _) rfl
        exact GotD.old hl4s (hdw.less' (fun x hx => by subst hx; omega)) (by simp) hl3.size (hkk.below hb4 hkk.lt)
      · have hkk : Bk ((w2.alloc (.cells #[.slice none 0 0, .bool false, .int .i64 0, .int .i64 0, .int .i64 0, .slice none 0 0, .int .i64 0, .int .i64 0, .int .i64 0, .slice none 0 0] 39 (0, 0))).drew) w2.heap.size 39 (dkC (.slice none 0 0) false 0 0 0 (.slice none 0 0) 0 0 0 (.slice none 0 0)) := Bk.newAt w2 _ (dkC _ _ _ _ _ _ _ _ _ _) rfl
        exact GotD.old hl4s (hdw.less' (fun x hx => by subst hx; omega)) (by omega) (Nat.le_refl _) ((hkk.below hb3 hkk.lt).below hl4 (hkk.below hb3 hkk.lt).lt)
    case rest =>
      obtain ⟨b, a, k, c, d, r, q', es2, rfl, rfl, hge, hkb, hdv, hb5⟩ := hcut
      have hlow5 := stepAny HL2.out hb5
      have HRD : Hid (Calls Try.prog 14 #[.agg #[.slice aub nb cub, .bool o, .int .i64 ct, .int .i64 co, .int .i64 cp, .slice auc cd.length cuc, .int .i64 l, .int .i64 lt, .int .i64 la, .slice aul ld.length cul], .agg #[.int .i64 t, .int .i64 q, .int .i64 p, .slice ax xs.length cx]] wc fun e w' => ∃ aR kR cR dR rR qR, e = .returned (.tuple #[.agg #[.slice aR n0 kR, .bool o2, .int .i64 ct2, .int .i64 co2, .int .i64 cp2, .slice cR n1 dR, .int .i64 l2, .int .i64 lt2, .int .i64 la2, .slice rR n2 qR], .int .i64 ec]) ∧ Dr w' (.slice aR n0 kR) (.slice cR n1 dR) (.slice rR n2 qR) bs2 cd2 ld2 ∧ Below wc.heap.size wc w') := by
        have h := rdo_w o ct co cp l lt la t q p (HDR.out.below hlow5 (Nat.le_refl _)) (HX.out.below hlow5 (Nat.le_refl _)) (by omega) HP64.out
        rw [HG.out] at h
        refine h.mono fun e w' h => ?_
        obtain ⟨ub', uc', ul', rfl, h1, h2⟩ := h
        obtain ⟨aR, kR, rfl, -⟩ := h1.b.open
        obtain ⟨cR, dR, rfl, -⟩ := id h1.c
        obtain ⟨rR, qR, rfl, -⟩ := id h1.l
        simp only at h1 ⊢
        rw [← HN0.out, ← HN1.out, ← HN2.out] at h1 ⊢
        exact ⟨_, _, _, _, _, _, rfl, h1, h2⟩
      have hks : Bk wc w.heap.size 31 [.slice aub nb cub, .bool o, .int .i64 ct, .int .i64 co, .int .i64 cp, .slice auc cd.length cuc, .int .i64 l, .int .i64 lt, .int .i64 la, .slice aul ld.length cul] := ((HK2.out.2 _ (.tail _ (.head _))).below hb5 (HK2.out.2 _ (.tail _ (.head _))).lt)
      have hkc : Bk wc (w.heap.size + 1) 25 [.int .i64 t, .int .i64 q, .int .i64 p, .slice ax xs.length cx] := ((HK2.out.2 _ (.head _)).below hb5 (HK2.out.2 _ (.head _)).lt)
      obtain ⟨⟨p0, p1, p2, p3, p4, p5, p6, p7, p8, p9⟩, -⟩ := Bk.fd hks
      obtain ⟨y0, y1, y2, y3⟩ : wc.cell? ⟨(w.heap.size + 1), 0, none⟩ = some (.int .i64 t) ∧ wc.cell? ⟨(w.heap.size + 1), 1, none⟩ = some (.int .i64 q) ∧ wc.cell? ⟨(w.heap.size + 1), 2, none⟩ = some (.int .i64 p) ∧ wc.cell? ⟨(w.heap.size + 1), 3, none⟩ = some (.slice ax xs.length cx) := ⟨hkc.cell 0, hkc.cell 1, hkc.cell 2, hkc.cell 3⟩
      go_upto_region 5 with (go_at_call 14; (with_reducible refine HRD.out.mono ?_); rintro e w7 ⟨aR, kR, cR, dR, rR, qR, rfl, hdR, hb7⟩)
      have hkb5 : Bk (w7.alloc (.cells #[.slice aR n0 kR, .bool o2, .int .i64 ct2, .int .i64 co2, .int .i64 cp2, .slice cR n1 dR, .int .i64 l2, .int .i64 lt2, .int .i64 la2, .slice rR n2 qR] 31 (0, 0))) b 39 [.slice a n0 k, .bool o2, .int .i64 ct2, .int .i64 co2, .int .i64 cp2, .slice c n1 d, .int .i64 l2, .int .i64 lt2, .int .i64 la2, .slice r n2 q'] := (hkb.below hb7 hkb.lt).alloc _
      have hks5 : Bk (w7.alloc (.cells #[.slice aR n0 kR, .bool o2, .int .i64 ct2, .int .i64 co2, .int .i64 cp2, .slice cR n1 dR, .int .i64 l2, .int .i64 lt2, .int .i64 la2, .slice rR n2 qR] 31 (0, 0))) w.heap.size 31 [.slice aub nb cub, .bool o, .int .i64 ct, .int .i64 co, .int .i64 cp, .slice auc cd.length cuc, .int .i64 l, .int .i64 lt, .int .i64 la, .slice aul ld.length cul] := (hks.below hb7 hks.lt).alloc _
      have hk75 : Bk (w7.alloc (.cells #[.slice aR n0 kR, .bool o2, .int .i64 ct2, .int .i64 co2, .int .i64 cp2, .slice cR n1 dR, .int .i64 l2, .int .i64 lt2, .int .i64 la2, .slice rR n2 qR] 31 (0, 0))) w7.heap.size 31 [.slice aR n0 kR, .bool o2, .int .i64 ct2, .int .i64 co2, .int .i64 cp2, .slice cR n1 dR, .int .i64 l2, .int .i64 lt2, .int .i64 la2, .slice rR n2 qR] := Bk.new _ _ [.slice aR n0 kR, .bool o2, .int .i64 ct2, .int .i64 co2, .int .i64 cp2, .slice cR n1 dR, .int .i64 l2, .int .i64 lt2, .int .i64 la2, .slice rR n2 qR]
      have hdA5 : Dr (w7.alloc (.cells #[.slice aR n0 kR, .bool o2, .int .i64 ct2, .int .i64 co2, .int .i64 cp2, .slice cR n1 dR, .int .i64 l2, .int .i64 lt2, .int .i64 la2, .slice rR n2 qR] 31 (0, 0))) (.slice a n0 k) (.slice c n1 d) (.slice r n2 q') bs2 cd2 ld2 := (hdv.here.dr.below hb7 (Nat.le_refl _)).below (low_alloc _ _) (Nat.le_refl _)
      have hdR5 : Dr (w7.alloc (.cells #[.slice aR n0 kR, .bool o2, .int .i64 ct2, .int .i64 co2, .int .i64 cp2, .slice cR n1 dR, .int .i64 l2, .int .i64 lt2, .int .i64 la2, .slice rR n2 qR] 31 (0, 0))) (.slice aR n0 kR) (.slice cR n1 dR) (.slice rR n2 qR) bs2 cd2 ld2 := hdR.below (low_alloc _ _) (Nat.le_refl _)
      have hl5 : Below w.heap.size w (w7.alloc (.cells #[.slice aR n0 kR, .bool o2, .int .i64 ct2, .int .i64 co2, .int .i64 cp2, .slice cR n1 dR, .int .i64 l2, .int .i64 lt2, .int .i64 la2, .slice rR n2 qR] 31 (0, 0))) := stepAny (stepAny hlow5 hb7) (low_alloc _ _)
      clear p0 p1 p2 p3 p4 p5 p6 p7 p8 p9 y0 y1 y2 y3 hkb hks hkc hdv hdR hb5 hb7 HRD hlow5
      generalize w7.alloc (.cells #[.slice aR n0 kR, .bool o2, .int .i64 ct2, .int .i64 co2, .int .i64 cp2, .slice cR n1 dR, .int .i64 l2, .int .i64 lt2, .int .i64 la2, .slice rR n2 qR] 31 (0, 0)) = W5 at *
      obtain ⟨b7, hb7e⟩ : ∃ x, x = w7.heap.size := ⟨_, rfl⟩
      rw [← hb7e] at hk75 ⊢
      clear hb7e
      have hdS5 : Dr W5 (.slice aub nb cub) (.slice auc cd.length cuc) (.slice aul ld.length cul) bs cd ld := HDR.out.below hl5 (Nat.le_refl _)
      have HFR : Hid (∀ W, Below W5.heap.size W5 W → Calls Try.prog 16 #[.agg #[.slice a n0 k, .bool o2, .int .i64 ct2, .int .i64 co2, .int .i64 cp2, .slice c n1 d, .int .i64 l2, .int .i64 lt2, .int .i64 la2, .slice r n2 q']] W fun e w' => e = .returned (.agg #[.slice a n0 k, .bool o2, .int .i64 ct2, .int .i64 co2, .int .i64 cp2, .slice c n1 d, .int .i64 l2, .int .i64 lt2, .int .i64 la2, .slice r n2 q']) ∧ Below W.heap.size W w') := fun W _ => from_w o2 ct2 co2 cp2 l2 lt2 la2 _ _ _ _ _ _ _ _ _ W
      have HTO2 : Hid (∀ W, Below W5.heap.size W5 W → Calls Try.prog 12 #[.agg #[.slice aub nb cub, .bool o, .int .i64 ct, .int .i64 co, .int .i64 cp, .slice auc cd.length cuc, .int .i64 l, .int .i64 lt, .int .i64 la, .slice aul ld.length cul]] W fun e w' => e = .returned (.agg #[.slice aub nb cub, .bool o, .int .i64 ct, .int .i64 co, .int .i64 cp, .slice auc cd.length cuc, .int .i64 l, .int .i64 lt, .int .i64 la, .slice aul ld.length cul]) ∧ Below W.heap.size W w') := fun W _ => HTO.out W
      have HE1 : Hid (∀ W, Below W5.heap.size W5 W → Calls Try.prog 15 #[.agg #[.slice a n0 k, .bool o2, .int .i64 ct2, .int .i64 co2, .int .i64 cp2, .slice c n1 d, .int .i64 l2, .int .i64 lt2, .int .i64 la2, .slice r n2 q'], .agg #[.slice aR n0 kR, .bool o2, .int .i64 ct2, .int .i64 co2, .int .i64 cp2, .slice cR n1 dR, .int .i64 l2, .int .i64 lt2, .int .i64 la2, .slice rR n2 qR]] W fun e w' => e = .returned (.bool true) ∧ Below W.heap.size W w') := fun W hW => by
        have h := rsequal_w (w := W) o2 o2 ct2 co2 cp2 l2 lt2 la2 ct2 co2 cp2 l2 lt2 la2 (hdA5.below hW (Nat.le_refl _)) (hdR5.below hW (Nat.le_refl _))
        rw [Dk.eqS_iff.2 rfl] at h
        exact h
      have HE2 : Hid (∀ W, Below W5.heap.size W5 W → Calls Try.prog 19 #[.agg #[.slice aub nb cub, .bool o, .int .i64 ct, .int .i64 co, .int .i64 cp, .slice auc cd.length cuc, .int .i64 l, .int .i64 lt, .int .i64 la, .slice aul ld.length cul], .agg #[.slice a n0 k, .bool o2, .int .i64 ct2, .int .i64 co2, .int .i64 cp2, .slice c n1 d, .int .i64 l2, .int .i64 lt2, .int .i64 la2, .slice r n2 q']] W fun e w' => e = .returned (.bool (Dk.eqS (bs, (o, (ct, co, cp, cd), l, (lt, la, ld))) (bs2, (o2, (ct2, co2, cp2, cd2), l2, (lt2, la2, ld2))))) ∧ Below W.heap.size W w') := fun W hW => dequal_w (w := W) o o2 ct co cp l lt la ct2 co2 cp2 l2 lt2 la2 (hdS5.below hW (Nat.le_refl _)) (hdA5.below hW (Nat.le_refl _))
      have HE3 : Hid (∀ W, Below W5.heap.size W5 W → Calls Try.prog 15 #[.agg #[.slice aub nb cub, .bool o, .int .i64 ct, .int .i64 co, .int .i64 cp, .slice auc cd.length cuc, .int .i64 l, .int .i64 lt, .int .i64 la, .slice aul ld.length cul], .agg #[.slice aR n0 kR, .bool o2, .int .i64 ct2, .int .i64 co2, .int .i64 cp2, .slice cR n1 dR, .int .i64 l2, .int .i64 lt2, .int .i64 la2, .slice rR n2 qR]] W fun e w' => e = .returned (.bool (Dk.eqS (bs, (o, (ct, co, cp, cd), l, (lt, la, ld))) (bs2, (o2, (ct2, co2, cp2, cd2), l2, (lt2, la2, ld2))))) ∧ Below W.heap.size W w') := fun W hW => rsequal_w (w := W) o o2 ct co cp l lt la ct2 co2 cp2 l2 lt2 la2 (hdS5.below hW (Nat.le_refl _)) (hdR5.below hW (Nat.le_refl _))
      have HV1 : Hid (∀ W, Below W5.heap.size W5 W → Calls Try.prog 17 #[.agg #[.slice aub nb cub, .bool o, .int .i64 ct, .int .i64 co, .int .i64 cp, .slice auc cd.length cuc, .int .i64 l, .int .i64 lt, .int .i64 la, .slice aul ld.length cul]] W fun e w' => e = .returned (.bool (Dk.valid (bs, (o, (ct, co, cp, cd), l, (lt, la, ld))))) ∧ Below W.heap.size W w') := fun W hW => dvalid_w o ct co cp l lt la (hdS5.below hW (Nat.le_refl _))
      have HV3 : Hid (∀ W, Below W5.heap.size W5 W → Calls Try.prog 18 #[.agg #[.slice aub nb cub, .bool o, .int .i64 ct, .int .i64 co, .int .i64 cp, .slice auc cd.length cuc, .int .i64 l, .int .i64 lt, .int .i64 la, .slice aul ld.length cul]] W fun e w' => e = .returned (.bool (Dk.valid (bs, (o, (ct, co, cp, cd), l, (lt, la, ld))))) ∧ Below W.heap.size W w') := fun W hW => rvalid_w o ct co cp l lt la (hdS5.below hW (Nat.le_refl _))
      have HV2 : Hid (ec = 0 → ∀ W, Below W5.heap.size W5 W → Calls Try.prog 17 #[.agg #[.slice a n0 k, .bool o2, .int .i64 ct2, .int .i64 co2, .int .i64 cp2, .slice c n1 d, .int .i64 l2, .int .i64 lt2, .int .i64 la2, .slice r n2 q']] W fun e w' => e = .returned (.bool true) ∧ Below W.heap.size W w') := fun he W hW => by
        have h := dvalid_w o2 ct2 co2 cp2 l2 lt2 la2 (hdA5.below hW (Nat.le_refl _))
        have hg := HG.out
        rw [he] at hg
        obtain ⟨_, _, _, _, -, hv1, -⟩ := Dk.give_ok hg
        rw [hv1] at h
        exact h
      have HQ : Hid (∀ W, Below W5.heap.size W5 W → W.cell? ⟨w.heap.size, 0, none⟩ = some (.slice aub nb cub) ∧ W.cell? ⟨w.heap.size, 1, none⟩ = some (.bool o) ∧ W.cell? ⟨w.heap.size, 2, none⟩ = some (.int .i64 ct) ∧ W.cell? ⟨w.heap.size, 3, none⟩ = some (.int .i64 co) ∧ W.cell? ⟨w.heap.size, 4, none⟩ = some (.int .i64 cp) ∧ W.cell? ⟨w.heap.size, 5, none⟩ = some (.slice auc cd.length cuc) ∧ W.cell? ⟨w.heap.size, 6, none⟩ = some (.int .i64 l) ∧ W.cell? ⟨w.heap.size, 7, none⟩ = some (.int .i64 lt) ∧ W.cell? ⟨w.heap.size, 8, none⟩ = some (.int .i64 la) ∧ W.cell? ⟨w.heap.size, 9, none⟩ = some (.slice aul ld.length cul) ∧ W.cell? ⟨b, 0, none⟩ = some (.slice a n0 k) ∧ W.cell? ⟨b, 1, none⟩ = some (.bool o2) ∧ W.cell? ⟨b, 2, none⟩ = some (.int .i64 ct2) ∧ W.cell? ⟨b, 3, none⟩ = some (.int .i64 co2) ∧ W.cell? ⟨b, 4, none⟩ = some (.int .i64 cp2) ∧ W.cell? ⟨b, 5, none⟩ = some (.slice c n1 d) ∧ W.cell? ⟨b, 6, none⟩ = some (.int .i64 l2) ∧ W.cell? ⟨b, 7, none⟩ = some (.int .i64 lt2) ∧ W.cell? ⟨b, 8, none⟩ = some (.int .i64 la2) ∧ W.cell? ⟨b, 9, none⟩ = some (.slice r n2 q') ∧ W.cell? ⟨b7, 0, none⟩ = some (.slice aR n0 kR) ∧ W.cell? ⟨b7, 1, none⟩ = some (.bool o2) ∧ W.cell? ⟨b7, 2, none⟩ = some (.int .i64 ct2) ∧ W.cell? ⟨b7, 3, none⟩ = some (.int .i64 co2) ∧ W.cell? ⟨b7, 4, none⟩ = some (.int .i64 cp2) ∧ W.cell? ⟨b7, 5, none⟩ = some (.slice cR n1 dR) ∧ W.cell? ⟨b7, 6, none⟩ = some (.int .i64 l2) ∧ W.cell? ⟨b7, 7, none⟩ = some (.int .i64 lt2) ∧ W.cell? ⟨b7, 8, none⟩ = some (.int .i64 la2) ∧ W.cell? ⟨b7, 9, none⟩ = some (.slice rR n2 qR)) := fun W hW => by
        have h1 := hks5.below hW hks5.lt
        have h2 := hkb5.below hW hkb5.lt
        have h3 := hk75.below hW hk75.lt
        exact ⟨h1.cell 0, h1.cell 1, h1.cell 2, h1.cell 3, h1.cell 4, h1.cell 5, h1.cell 6, h1.cell 7, h1.cell 8, h1.cell 9, h2.cell 0, h2.cell 1, h2.cell 2, h2.cell 3, h2.cell 4, h2.cell 5, h2.cell 6, h2.cell 7, h2.cell 8, h2.cell 9, h3.cell 0, h3.cell 1, h3.cell 2, h3.cell 3, h3.cell 4, h3.cell 5, h3.cell 6, h3.cell 7, h3.cell 8, h3.cell 9⟩
      have HL5 := Lib.hid hl5
      clear hkb5 hks5 hk75 hdA5 hdR5 hdS5 hl5 HTO
      generalize Dk.valid (bs, (o, (ct, co, cp, cd), l, (lt, la, ld))) = vv at *
      generalize Dk.eqS (bs, (o, (ct, co, cp, cd), l, (lt, la, ld))) (bs2, (o2, (ct2, co2, cp2, cd2), l2, (lt2, la2, ld2))) = rr at *
      have hvv : (vv == vv) = true := by simp
      have hrr : (rr == rr) = true := by simp
      have HTO := HTO2
      clear HTO2
      by_cases hec : ec = 0
      · subst hec
        have HVA : Hid (∀ W, Below W5.heap.size W5 W → Calls Try.prog 17 #[.agg #[.slice a n0 k, .bool o2, .int .i64 ct2, .int .i64 co2, .int .i64 cp2, .slice c n1 d, .int .i64 l2, .int .i64 lt2, .int .i64 la2, .slice r n2 q']] W fun e w' => e = .returned (.bool true) ∧ Below W.heap.size W w') := HV2.out rfl
        clear HV2
        have hl0 := low_drew W5
        refine wp_region_noPanic ?_
        refine wp_region_held_drew (S := fun w' => w'.cell? ⟨w.heap.size, 0, none⟩ = some (.slice aub nb cub) ∧ w'.cell? ⟨w.heap.size, 1, none⟩ = some (.bool o) ∧ w'.cell? ⟨w.heap.size, 2, none⟩ = some (.int .i64 ct) ∧ w'.cell? ⟨w.heap.size, 3, none⟩ = some (.int .i64 co) ∧ w'.cell? ⟨w.heap.size, 4, none⟩ = some (.int .i64 cp) ∧ w'.cell? ⟨w.heap.size, 5, none⟩ = some (.slice auc cd.length cuc) ∧ w'.cell? ⟨w.heap.size, 6, none⟩ = some (.int .i64 l) ∧ w'.cell? ⟨w.heap.size, 7, none⟩ = some (.int .i64 lt) ∧ w'.cell? ⟨w.heap.size, 8, none⟩ = some (.int .i64 la) ∧ w'.cell? ⟨w.heap.size, 9, none⟩ = some (.slice aul ld.length cul) ∧ w'.cell? ⟨b, 0, none⟩ = some (.slice a n0 k) ∧ w'.cell? ⟨b, 1, none⟩ = some (.bool o2) ∧ w'.cell? ⟨b, 2, none⟩ = some (.int .i64 ct2) ∧ w'.cell? ⟨b, 3, none⟩ = some (.int .i64 co2) ∧ w'.cell? ⟨b, 4, none⟩ = some (.int .i64 cp2) ∧ w'.cell? ⟨b, 5, none⟩ = some (.slice c n1 d) ∧ w'.cell? ⟨b, 6, none⟩ = some (.int .i64 l2) ∧ w'.cell? ⟨b, 7, none⟩ = some (.int .i64 lt2) ∧ w'.cell? ⟨b, 8, none⟩ = some (.int .i64 la2) ∧ w'.cell? ⟨b, 9, none⟩ = some (.slice r n2 q') ∧ w'.cell? ⟨b7, 0, none⟩ = some (.slice aR n0 kR) ∧ w'.cell? ⟨b7, 1, none⟩ = some (.bool o2) ∧ w'.cell? ⟨b7, 2, none⟩ = some (.int .i64 ct2) ∧ w'.cell? ⟨b7, 3, none⟩ = some (.int .i64 co2) ∧ w'.cell? ⟨b7, 4, none⟩ = some (.int .i64 cp2) ∧ w'.cell? ⟨b7, 5, none⟩ = some (.slice cR n1 dR) ∧ w'.cell? ⟨b7, 6, none⟩ = some (.int .i64 l2) ∧ w'.cell? ⟨b7, 7, none⟩ = some (.int .i64 lt2) ∧ w'.cell? ⟨b7, 8, none⟩ = some (.int .i64 la2) ∧ w'.cell? ⟨b7, 9, none⟩ = some (.slice rR n2 qR)) (by kernel_rfl) (HQ.out _ hl0) (fun _ => ?_)
        refine wpAnyH_take (i := 0) (oi := ⟨some 31, _, _, _, _, _⟩) (v := ?_) rfl (by kernel_rfl) (by kernel_rfl) (by kernel_rfl) (fun _ _ _ h => h) (Or.inl ⟨by rfl, ?hyg0⟩) (HQ.out _ (by with_reducible assumption)) ?reg0
        case hyg0 => ((intro w hSw; (try dsimp only at hSw); go_simp); first | done | with_reducible rfl)
        (try simp only [Act.put, List.setIfInBounds_toArray, List.set_cons_zero, List.set_cons_succ])
        refine wpAnyH_take (i := 1) (oi := ⟨some 32, _, _, _, _, _⟩) (v := ?_) rfl (by kernel_rfl) (by kernel_rfl) (by kernel_rfl) (fun _ _ _ h => h) (Or.inl ⟨by rfl, ?hyg1⟩) (HQ.out _ (by with_reducible assumption)) ?reg1
        case hyg1 => ((intro w hSw; (try dsimp only at hSw); go_simp); first | done | with_reducible rfl)
        (try simp only [Act.put, List.setIfInBounds_toArray, List.set_cons_zero, List.set_cons_succ])
        refine wpAnyH_take (i := 2) (oi := ⟨some 33, _, _, _, _, _⟩) (v := ?_) rfl (by kernel_rfl) (by kernel_rfl) (by kernel_rfl) (fun _ _ _ h => h) (Or.inl ⟨by rfl, ?hyg2⟩) (HQ.out _ (by with_reducible assumption)) ?reg2
        case hyg2 => ((intro w hSw; (try dsimp only at hSw); go_simp); first | done | with_reducible rfl)
        (try simp only [Act.put, List.setIfInBounds_toArray, List.set_cons_zero, List.set_cons_succ])
        refine wpAnyH_take (i := 3) (oi := ⟨some 34, _, _, _, _, _⟩) (v := ?_) rfl (by kernel_rfl) (by kernel_rfl) (by kernel_rfl) (fun _ _ _ h => h) (Or.inl ⟨by rfl, ?hyg3⟩) (HQ.out _ (by with_reducible assumption)) ?reg3
        case hyg3 => ((intro w hSw; (try dsimp only at hSw); go_simp); first | done | with_reducible rfl)
        (try simp only [Act.put, List.setIfInBounds_toArray, List.set_cons_zero, List.set_cons_succ])
        refine wpAnyH_take (i := 4) (oi := ⟨some 35, _, _, _, _, _⟩) (v := ?_) rfl (by kernel_rfl) (by kernel_rfl) (by kernel_rfl) (fun _ _ _ h => h) (Or.inl ⟨by rfl, ?hyg4⟩) (HQ.out _ (by with_reducible assumption)) ?reg4
        case hyg4 => ((intro w hSw; (try dsimp only at hSw); go_simp); first | done | with_reducible rfl)
        (try simp only [Act.put, List.setIfInBounds_toArray, List.set_cons_zero, List.set_cons_succ])
        refine wpAnyH_take (i := 6) (oi := ⟨some 37, _, _, _, _, _⟩) (v := ?_) rfl (by kernel_rfl) (by kernel_rfl) (by kernel_rfl) (fun _ _ _ h => h) (Or.inl ⟨by rfl, ?hyg6⟩) (HQ.out _ (by with_reducible assumption)) ?reg6
        case hyg6 => ((intro w hSw; (try dsimp only at hSw); go_simp); first | done | with_reducible rfl)
        (try simp only [Act.put, List.setIfInBounds_toArray, List.set_cons_zero, List.set_cons_succ])
        refine wpAnyH_ready (rs := [5]) (by kernel_rfl) (by simp) ?_
        refine AllReadyH.cons rfl (fun K hK => ?_) AllReadyH.nil
        go_simp
        go_wp2_with (first | (go_at_call 16; (with_reducible refine (HFR.out _ (by with_reducible assumption)).mono ?_); rintro e w20 ⟨rfl, hb20⟩; have hl20 := stepAny (by with_reducible assumption) hb20) | (go_at_call 15; (with_reducible refine (HE1.out _ (by with_reducible assumption)).mono ?_); rintro e w21 ⟨rfl, hb21⟩; have hl21 := stepAny (by with_reducible assumption) hb21) | (go_at_call 15; (with_reducible refine (HE3.out _ (by with_reducible assumption)).mono ?_); rintro e w22 ⟨rfl, hb22⟩; have hl22 := stepAny (by with_reducible assumption) hb22) | (go_at_call 12; (with_reducible refine (HTO.out _ (by with_reducible assumption)).mono ?_); rintro e w23 ⟨rfl, hb23⟩; have hl23 := stepAny (by with_reducible assumption) hb23) | (go_at_call 17; (with_reducible refine (HV1.out _ (by with_reducible assumption)).mono ?_); rintro e w24 ⟨rfl, hb24⟩; have hl24 := stepAny (by with_reducible assumption) hb24) | (go_at_call 18; (with_reducible refine (HV3.out _ (by with_reducible assumption)).mono ?_); rintro e w25 ⟨rfl, hb25⟩; have hl25 := stepAny (by with_reducible assumption) hb25) | (go_at_call 19; (with_reducible refine (HE2.out _ (by with_reducible assumption)).mono ?_); rintro e w26 ⟨rfl, hb26⟩; have hl26 := stepAny (by with_reducible assumption) hb26) | (go_at_call 17; (with_reducible refine (HVA.out _ (by with_reducible assumption)).mono ?_); rintro e w27 ⟨rfl, hb27⟩; have hl27 := stepAny (by with_reducible assumption) hb27))
        refine hK.out _ _ (HQ.out _ (by with_reducible assumption)) (fun _ => ?_)
        clear hK K
        (try simp only [Act.put, List.setIfInBounds_toArray, List.set_cons_zero, List.set_cons_succ])
        refine wpAnyH_ready (rs := [7]) (by kernel_rfl) (by simp) ?_
        refine AllReadyH.cons rfl (fun K hK => ?_) AllReadyH.nil
        go_simp
        go_wp2_with (first | (go_at_call 16; (with_reducible refine (HFR.out _ (by with_reducible assumption)).mono ?_); rintro e w20 ⟨rfl, hb20⟩; have hl20 := stepAny (by with_reducible assumption) hb20) | (go_at_call 15; (with_reducible refine (HE1.out _ (by with_reducible assumption)).mono ?_); rintro e w21 ⟨rfl, hb21⟩; have hl21 := stepAny (by with_reducible assumption) hb21) | (go_at_call 15; (with_reducible refine (HE3.out _ (by with_reducible assumption)).mono ?_); rintro e w22 ⟨rfl, hb22⟩; have hl22 := stepAny (by with_reducible assumption) hb22) | (go_at_call 12; (with_reducible refine (HTO.out _ (by with_reducible assumption)).mono ?_); rintro e w23 ⟨rfl, hb23⟩; have hl23 := stepAny (by with_reducible assumption) hb23) | (go_at_call 17; (with_reducible refine (HV1.out _ (by with_reducible assumption)).mono ?_); rintro e w24 ⟨rfl, hb24⟩; have hl24 := stepAny (by with_reducible assumption) hb24) | (go_at_call 18; (with_reducible refine (HV3.out _ (by with_reducible assumption)).mono ?_); rintro e w25 ⟨rfl, hb25⟩; have hl25 := stepAny (by with_reducible assumption) hb25) | (go_at_call 19; (with_reducible refine (HE2.out _ (by with_reducible assumption)).mono ?_); rintro e w26 ⟨rfl, hb26⟩; have hl26 := stepAny (by with_reducible assumption) hb26) | (go_at_call 17; (with_reducible refine (HVA.out _ (by with_reducible assumption)).mono ?_); rintro e w27 ⟨rfl, hb27⟩; have hl27 := stepAny (by with_reducible assumption) hb27))
        refine hK.out _ _ (HQ.out _ (by with_reducible assumption)) (fun _ => ?_)
        clear hK K
        (try simp only [Act.put, List.setIfInBounds_toArray, List.set_cons_zero, List.set_cons_succ])
        refine wpAnyH_take (i := 8) (oi := ⟨some 39, _, _, _, _, _⟩) (v := ?_) rfl (by kernel_rfl) (by kernel_rfl) (by kernel_rfl) (fun _ _ _ h => h) (Or.inl ⟨by rfl, ?hyg8⟩) (HQ.out _ (by with_reducible assumption)) ?reg8
        case hyg8 => ((intro w hSw; (try dsimp only at hSw); go_simp); first | done | with_reducible rfl)
        (try simp only [Act.put, List.setIfInBounds_toArray, List.set_cons_zero, List.set_cons_succ])
        refine wpAnyH_take (i := 9) (oi := ⟨some 40, _, _, _, _, _⟩) (v := ?_) rfl (by kernel_rfl) (by kernel_rfl) (by kernel_rfl) (fun _ _ _ h => h) (Or.inl ⟨by rfl, ?hyg9⟩) (HQ.out _ (by with_reducible assumption)) ?reg9
        case hyg9 => ((intro w hSw; (try dsimp only at hSw); go_simp); first | done | with_reducible rfl)
        (try simp only [Act.put, List.setIfInBounds_toArray, List.set_cons_zero, List.set_cons_succ])
        refine wpAnyH_take (i := 10) (oi := ⟨some 41, _, _, _, _, _⟩) (v := ?_) rfl (by kernel_rfl) (by kernel_rfl) (by kernel_rfl) (fun _ _ _ h => h) (Or.inl ⟨by rfl, ?hyg10⟩) (HQ.out _ (by with_reducible assumption)) ?reg10
        case hyg10 => ((intro w hSw; (try dsimp only at hSw); go_simp); first | done | with_reducible rfl)
        (try simp only [Act.put, List.setIfInBounds_toArray, List.set_cons_zero, List.set_cons_succ])
        refine wpAnyH_take (i := 13) (oi := ⟨some 44, _, _, _, _, _⟩) (v := ?_) rfl (by kernel_rfl) (by kernel_rfl) (by kernel_rfl) (fun _ _ _ h => h) (Or.inl ⟨by rfl, ?hyg13⟩) (HQ.out _ (by with_reducible assumption)) ?reg13
        case hyg13 => ((intro w hSw; (try dsimp only at hSw); go_simp); first | done | with_reducible rfl)
        (try simp only [Act.put, List.setIfInBounds_toArray, List.set_cons_zero, List.set_cons_succ])
        refine wpAnyH_ready (rs := [11]) (by kernel_rfl) (by simp) ?_
        refine AllReadyH.cons rfl (fun K hK => ?_) AllReadyH.nil
        go_simp
        go_wp2_with (first | (go_at_call 16; (with_reducible refine (HFR.out _ (by with_reducible assumption)).mono ?_); rintro e w20 ⟨rfl, hb20⟩; have hl20 := stepAny (by with_reducible assumption) hb20) | (go_at_call 15; (with_reducible refine (HE1.out _ (by with_reducible assumption)).mono ?_); rintro e w21 ⟨rfl, hb21⟩; have hl21 := stepAny (by with_reducible assumption) hb21) | (go_at_call 15; (with_reducible refine (HE3.out _ (by with_reducible assumption)).mono ?_); rintro e w22 ⟨rfl, hb22⟩; have hl22 := stepAny (by with_reducible assumption) hb22) | (go_at_call 12; (with_reducible refine (HTO.out _ (by with_reducible assumption)).mono ?_); rintro e w23 ⟨rfl, hb23⟩; have hl23 := stepAny (by with_reducible assumption) hb23) | (go_at_call 17; (with_reducible refine (HV1.out _ (by with_reducible assumption)).mono ?_); rintro e w24 ⟨rfl, hb24⟩; have hl24 := stepAny (by with_reducible assumption) hb24) | (go_at_call 18; (with_reducible refine (HV3.out _ (by with_reducible assumption)).mono ?_); rintro e w25 ⟨rfl, hb25⟩; have hl25 := stepAny (by with_reducible assumption) hb25) | (go_at_call 19; (with_reducible refine (HE2.out _ (by with_reducible assumption)).mono ?_); rintro e w26 ⟨rfl, hb26⟩; have hl26 := stepAny (by with_reducible assumption) hb26) | (go_at_call 17; (with_reducible refine (HVA.out _ (by with_reducible assumption)).mono ?_); rintro e w27 ⟨rfl, hb27⟩; have hl27 := stepAny (by with_reducible assumption) hb27))
        refine hK.out _ _ (HQ.out _ (by with_reducible assumption)) (fun _ => ?_)
        clear hK K
        (try simp only [Act.put, List.setIfInBounds_toArray, List.set_cons_zero, List.set_cons_succ])
        refine wpAnyH_ready (rs := [12]) (by kernel_rfl) (by simp) ?_
        refine AllReadyH.cons rfl (fun K hK => ?_) AllReadyH.nil
        go_simp
        go_wp2_with (first | (go_at_call 16; (with_reducible refine (HFR.out _ (by with_reducible assumption)).mono ?_); rintro e w20 ⟨rfl, hb20⟩; have hl20 := stepAny (by with_reducible assumption) hb20) | (go_at_call 15; (with_reducible refine (HE1.out _ (by with_reducible assumption)).mono ?_); rintro e w21 ⟨rfl, hb21⟩; have hl21 := stepAny (by with_reducible assumption) hb21) | (go_at_call 15; (with_reducible refine (HE3.out _ (by with_reducible assumption)).mono ?_); rintro e w22 ⟨rfl, hb22⟩; have hl22 := stepAny (by with_reducible assumption) hb22) | (go_at_call 12; (with_reducible refine (HTO.out _ (by with_reducible assumption)).mono ?_); rintro e w23 ⟨rfl, hb23⟩; have hl23 := stepAny (by with_reducible assumption) hb23) | (go_at_call 17; (with_reducible refine (HV1.out _ (by with_reducible assumption)).mono ?_); rintro e w24 ⟨rfl, hb24⟩; have hl24 := stepAny (by with_reducible assumption) hb24) | (go_at_call 18; (with_reducible refine (HV3.out _ (by with_reducible assumption)).mono ?_); rintro e w25 ⟨rfl, hb25⟩; have hl25 := stepAny (by with_reducible assumption) hb25) | (go_at_call 19; (with_reducible refine (HE2.out _ (by with_reducible assumption)).mono ?_); rintro e w26 ⟨rfl, hb26⟩; have hl26 := stepAny (by with_reducible assumption) hb26) | (go_at_call 17; (with_reducible refine (HVA.out _ (by with_reducible assumption)).mono ?_); rintro e w27 ⟨rfl, hb27⟩; have hl27 := stepAny (by with_reducible assumption) hb27))
        refine hK.out _ _ (HQ.out _ (by with_reducible assumption)) (fun _ => ?_)
        clear hK K
        (try simp only [Act.put, List.setIfInBounds_toArray, List.set_cons_zero, List.set_cons_succ])
        refine wpAnyH_ready (rs := [14]) (by kernel_rfl) (by simp) ?_
        refine AllReadyH.cons rfl (fun K hK => ?_) AllReadyH.nil
        go_simp
        go_wp2_with (first | (go_at_call 16; (with_reducible refine (HFR.out _ (by with_reducible assumption)).mono ?_); rintro e w20 ⟨rfl, hb20⟩; have hl20 := stepAny (by with_reducible assumption) hb20) | (go_at_call 15; (with_reducible refine (HE1.out _ (by with_reducible assumption)).mono ?_); rintro e w21 ⟨rfl, hb21⟩; have hl21 := stepAny (by with_reducible assumption) hb21) | (go_at_call 15; (with_reducible refine (HE3.out _ (by with_reducible assumption)).mono ?_); rintro e w22 ⟨rfl, hb22⟩; have hl22 := stepAny (by with_reducible assumption) hb22) | (go_at_call 12; (with_reducible refine (HTO.out _ (by with_reducible assumption)).mono ?_); rintro e w23 ⟨rfl, hb23⟩; have hl23 := stepAny (by with_reducible assumption) hb23) | (go_at_call 17; (with_reducible refine (HV1.out _ (by with_reducible assumption)).mono ?_); rintro e w24 ⟨rfl, hb24⟩; have hl24 := stepAny (by with_reducible assumption) hb24) | (go_at_call 18; (with_reducible refine (HV3.out _ (by with_reducible assumption)).mono ?_); rintro e w25 ⟨rfl, hb25⟩; have hl25 := stepAny (by with_reducible assumption) hb25) | (go_at_call 19; (with_reducible refine (HE2.out _ (by with_reducible assumption)).mono ?_); rintro e w26 ⟨rfl, hb26⟩; have hl26 := stepAny (by with_reducible assumption) hb26) | (go_at_call 17; (with_reducible refine (HVA.out _ (by with_reducible assumption)).mono ?_); rintro e w27 ⟨rfl, hb27⟩; have hl27 := stepAny (by with_reducible assumption) hb27))
        refine hK.out _ _ (HQ.out _ (by with_reducible assumption)) (fun _ => ?_)
        clear hK K
        (try simp only [Act.put, List.setIfInBounds_toArray, List.set_cons_zero, List.set_cons_succ])
        refine wpAnyH_take (i := 15) (oi := ⟨some 46, _, _, _, _, _⟩) (v := ?_) rfl (by kernel_rfl) (by kernel_rfl) (by kernel_rfl) (fun _ _ _ h => h) (Or.inl ⟨by rfl, ?hyg15⟩) (HQ.out _ (by with_reducible assumption)) ?reg15
        case hyg15 => ((intro w hSw; (try dsimp only at hSw); go_simp); first | done | with_reducible rfl)
        (try simp only [Act.put, List.setIfInBounds_toArray, List.set_cons_zero, List.set_cons_succ])
        refine wpAnyH_take (i := 16) (oi := ⟨some 47, _, _, _, _, _⟩) (v := ?_) rfl (by kernel_rfl) (by kernel_rfl) (by kernel_rfl) (fun _ _ _ h => h) (Or.inl ⟨by rfl, ?hyg16⟩) (HQ.out _ (by with_reducible assumption)) ?reg16
        case hyg16 => ((intro w hSw; (try dsimp only at hSw); go_simp); first | done | with_reducible rfl)
        (try simp only [Act.put, List.setIfInBounds_toArray, List.set_cons_zero, List.set_cons_succ])
        refine wpAnyH_take (i := 17) (oi := ⟨some 48, _, _, _, _, _⟩) (v := ?_) rfl (by kernel_rfl) (by kernel_rfl) (by kernel_rfl) (fun _ _ _ h => h) (Or.inl ⟨by rfl, ?hyg17⟩) (HQ.out _ (by with_reducible assumption)) ?reg17
        case hyg17 => ((intro w hSw; (try dsimp only at hSw); go_simp); first | done | with_reducible rfl)
        (try simp only [Act.put, List.setIfInBounds_toArray, List.set_cons_zero, List.set_cons_succ])
        refine wpAnyH_take (i := 18) (oi := ⟨some 49, _, _, _, _, _⟩) (v := ?_) rfl (by kernel_rfl) (by kernel_rfl) (by kernel_rfl) (fun _ _ _ h => h) (Or.inl ⟨by rfl, ?hyg18⟩) (HQ.out _ (by with_reducible assumption)) ?reg18
        case hyg18 => ((intro w hSw; (try dsimp only at hSw); go_simp); first | done | with_reducible rfl)
        (try simp only [Act.put, List.setIfInBounds_toArray, List.set_cons_zero, List.set_cons_succ])
        refine wpAnyH_take (i := 19) (oi := ⟨some 50, _, _, _, _, _⟩) (v := ?_) rfl (by kernel_rfl) (by kernel_rfl) (by kernel_rfl) (fun _ _ _ h => h) (Or.inl ⟨by rfl, ?hyg19⟩) (HQ.out _ (by with_reducible assumption)) ?reg19
        case hyg19 => ((intro w hSw; (try dsimp only at hSw); go_simp); first | done | with_reducible rfl)
        (try simp only [Act.put, List.setIfInBounds_toArray, List.set_cons_zero, List.set_cons_succ])
        refine wpAnyH_take (i := 20) (oi := ⟨some 51, _, _, _, _, _⟩) (v := ?_) rfl (by kernel_rfl) (by kernel_rfl) (by kernel_rfl) (fun _ _ _ h => h) (Or.inl ⟨by rfl, ?hyg20⟩) (HQ.out _ (by with_reducible assumption)) ?reg20
        case hyg20 => ((intro w hSw; (try dsimp only at hSw); go_simp); first | done | with_reducible rfl)
        (try simp only [Act.put, List.setIfInBounds_toArray, List.set_cons_zero, List.set_cons_succ])
        refine wpAnyH_take (i := 21) (oi := ⟨some 52, _, _, _, _, _⟩) (v := ?_) rfl (by kernel_rfl) (by kernel_rfl) (by kernel_rfl) (fun _ _ _ h => h) (Or.inl ⟨by rfl, ?hyg21⟩) (HQ.out _ (by with_reducible assumption)) ?reg21
        case hyg21 => ((intro w hSw; (try dsimp only at hSw); go_simp); first | done | with_reducible rfl)
        (try simp only [Act.put, List.setIfInBounds_toArray, List.set_cons_zero, List.set_cons_succ])
        refine wpAnyH_ready (rs := [22]) (by kernel_rfl) (by simp) ?_
        refine AllReadyH.cons rfl (fun K hK => ?_) AllReadyH.nil
        go_simp
        go_wp2_with (first | (go_at_call 16; (with_reducible refine (HFR.out _ (by with_reducible assumption)).mono ?_); rintro e w20 ⟨rfl, hb20⟩; have hl20 := stepAny (by with_reducible assumption) hb20) | (go_at_call 15; (with_reducible refine (HE1.out _ (by with_reducible assumption)).mono ?_); rintro e w21 ⟨rfl, hb21⟩; have hl21 := stepAny (by with_reducible assumption) hb21) | (go_at_call 15; (with_reducible refine (HE3.out _ (by with_reducible assumption)).mono ?_); rintro e w22 ⟨rfl, hb22⟩; have hl22 := stepAny (by with_reducible assumption) hb22) | (go_at_call 12; (with_reducible refine (HTO.out _ (by with_reducible assumption)).mono ?_); rintro e w23 ⟨rfl, hb23⟩; have hl23 := stepAny (by with_reducible assumption) hb23) | (go_at_call 17; (with_reducible refine (HV1.out _ (by with_reducible assumption)).mono ?_); rintro e w24 ⟨rfl, hb24⟩; have hl24 := stepAny (by with_reducible assumption) hb24) | (go_at_call 18; (with_reducible refine (HV3.out _ (by with_reducible assumption)).mono ?_); rintro e w25 ⟨rfl, hb25⟩; have hl25 := stepAny (by with_reducible assumption) hb25) | (go_at_call 19; (with_reducible refine (HE2.out _ (by with_reducible assumption)).mono ?_); rintro e w26 ⟨rfl, hb26⟩; have hl26 := stepAny (by with_reducible assumption) hb26) | (go_at_call 17; (with_reducible refine (HVA.out _ (by with_reducible assumption)).mono ?_); rintro e w27 ⟨rfl, hb27⟩; have hl27 := stepAny (by with_reducible assumption) hb27))
        refine hK.out _ _ (HQ.out _ (by with_reducible assumption)) (fun _ => ?_)
        clear hK K
        (try simp only [Act.put, List.setIfInBounds_toArray, List.set_cons_zero, List.set_cons_succ])
        refine wpAnyH_take (i := 23) (oi := ⟨some 54, _, _, _, _, _⟩) (v := ?_) rfl (by kernel_rfl) (by kernel_rfl) (by kernel_rfl) (fun _ _ _ h => h) (Or.inl ⟨by rfl, ?hyg23⟩) (HQ.out _ (by with_reducible assumption)) ?reg23
        case hyg23 => ((intro w hSw; (try dsimp only at hSw); go_simp); first | done | with_reducible rfl)
        (try simp only [Act.put, List.setIfInBounds_toArray, List.set_cons_zero, List.set_cons_succ])
        refine wpAnyH_take (i := 24) (oi := ⟨some 55, _, _, _, _, _⟩) (v := ?_) rfl (by kernel_rfl) (by kernel_rfl) (by kernel_rfl) (fun _ _ _ h => h) (Or.inl ⟨by rfl, ?hyg24⟩) (HQ.out _ (by with_reducible assumption)) ?reg24
        case hyg24 => ((intro w hSw; (try dsimp only at hSw); go_simp); first | done | with_reducible rfl)
        (try simp only [Act.put, List.setIfInBounds_toArray, List.set_cons_zero, List.set_cons_succ])
        refine wpAnyH_take (i := 25) (oi := ⟨some 56, _, _, _, _, _⟩) (v := ?_) rfl (by kernel_rfl) (by kernel_rfl) (by kernel_rfl) (fun _ _ _ h => h) (Or.inl ⟨by rfl, ?hyg25⟩) (HQ.out _ (by with_reducible assumption)) ?reg25
        case hyg25 => ((intro w hSw; (try dsimp only at hSw); go_simp); first | done | with_reducible rfl)
        (try simp only [Act.put, List.setIfInBounds_toArray, List.set_cons_zero, List.set_cons_succ])
        refine wpAnyH_take (i := 26) (oi := ⟨some 57, _, _, _, _, _⟩) (v := ?_) rfl (by kernel_rfl) (by kernel_rfl) (by kernel_rfl) (fun _ _ _ h => h) (Or.inl ⟨by rfl, ?hyg26⟩) (HQ.out _ (by with_reducible assumption)) ?reg26
        case hyg26 => ((intro w hSw; (try dsimp only at hSw); go_simp); first | done | with_reducible rfl)
        (try simp only [Act.put, List.setIfInBounds_toArray, List.set_cons_zero, List.set_cons_succ])
        refine wpAnyH_take (i := 28) (oi := ⟨some 59, _, _, _, _, _⟩) (v := ?_) rfl (by kernel_rfl) (by kernel_rfl) (by kernel_rfl) (fun _ _ _ h => h) (Or.inl ⟨by rfl, ?hyg28⟩) (HQ.out _ (by with_reducible assumption)) ?reg28
        case hyg28 => ((intro w hSw; (try dsimp only at hSw); go_simp); first | done | with_reducible rfl)
        (try simp only [Act.put, List.setIfInBounds_toArray, List.set_cons_zero, List.set_cons_succ])
        refine wpAnyH_take (i := 30) (oi := ⟨some 61, _, _, _, _, _⟩) (v := ?_) rfl (by kernel_rfl) (by kernel_rfl) (by kernel_rfl) (fun _ _ _ h => h) (Or.inl ⟨by rfl, ?hyg30⟩) (HQ.out _ (by with_reducible assumption)) ?reg30
        case hyg30 => ((intro w hSw; (try dsimp only at hSw); go_simp); first | done | with_reducible rfl)
        (try simp only [Act.put, List.setIfInBounds_toArray, List.set_cons_zero, List.set_cons_succ])
        refine wpAnyH_take (i := 31) (oi := ⟨some 62, _, _, _, _, _⟩) (v := ?_) rfl (by kernel_rfl) (by kernel_rfl) (by kernel_rfl) (fun _ _ _ h => h) (Or.inl ⟨by rfl, ?hyg31⟩) (HQ.out _ (by with_reducible assumption)) ?reg31
        case hyg31 => ((intro w hSw; (try dsimp only at hSw); go_simp); first | done | with_reducible rfl)
        (try simp only [Act.put, List.setIfInBounds_toArray, List.set_cons_zero, List.set_cons_succ])
        refine wpAnyH_ready (rs := [27]) (by kernel_rfl) (by simp) ?_
        refine AllReadyH.cons rfl (fun K hK => ?_) AllReadyH.nil
        go_simp
        go_wp2_with (first | (go_at_call 16; (with_reducible refine (HFR.out _ (by with_reducible assumption)).mono ?_); rintro e w20 ⟨rfl, hb20⟩; have hl20 := stepAny (by with_reducible assumption) hb20) | (go_at_call 15; (with_reducible refine (HE1.out _ (by with_reducible assumption)).mono ?_); rintro e w21 ⟨rfl, hb21⟩; have hl21 := stepAny (by with_reducible assumption) hb21) | (go_at_call 15; (with_reducible refine (HE3.out _ (by with_reducible assumption)).mono ?_); rintro e w22 ⟨rfl, hb22⟩; have hl22 := stepAny (by with_reducible assumption) hb22) | (go_at_call 12; (with_reducible refine (HTO.out _ (by with_reducible assumption)).mono ?_); rintro e w23 ⟨rfl, hb23⟩; have hl23 := stepAny (by with_reducible assumption) hb23) | (go_at_call 17; (with_reducible refine (HV1.out _ (by with_reducible assumption)).mono ?_); rintro e w24 ⟨rfl, hb24⟩; have hl24 := stepAny (by with_reducible assumption) hb24) | (go_at_call 18; (with_reducible refine (HV3.out _ (by with_reducible assumption)).mono ?_); rintro e w25 ⟨rfl, hb25⟩; have hl25 := stepAny (by with_reducible assumption) hb25) | (go_at_call 19; (with_reducible refine (HE2.out _ (by with_reducible assumption)).mono ?_); rintro e w26 ⟨rfl, hb26⟩; have hl26 := stepAny (by with_reducible assumption) hb26) | (go_at_call 17; (with_reducible refine (HVA.out _ (by with_reducible assumption)).mono ?_); rintro e w27 ⟨rfl, hb27⟩; have hl27 := stepAny (by with_reducible assumption) hb27))
        refine hK.out _ _ (HQ.out _ (by with_reducible assumption)) (fun _ => ?_)
        clear hK K
        (try simp only [Act.put, List.setIfInBounds_toArray, List.set_cons_zero, List.set_cons_succ])
        refine wpAnyH_ready (rs := [29]) (by kernel_rfl) (by simp) ?_
        refine AllReadyH.cons rfl (fun K hK => ?_) AllReadyH.nil
        go_simp
        go_wp2_with (first | (go_at_call 16; (with_reducible refine (HFR.out _ (by with_reducible assumption)).mono ?_); rintro e w20 ⟨rfl, hb20⟩; have hl20 := stepAny (by with_reducible assumption) hb20) | (go_at_call 15; (with_reducible refine (HE1.out _ (by with_reducible assumption)).mono ?_); rintro e w21 ⟨rfl, hb21⟩; have hl21 := stepAny (by with_reducible assumption) hb21) | (go_at_call 15; (with_reducible refine (HE3.out _ (by with_reducible assumption)).mono ?_); rintro e w22 ⟨rfl, hb22⟩; have hl22 := stepAny (by with_reducible assumption) hb22) | (go_at_call 12; (with_reducible refine (HTO.out _ (by with_reducible assumption)).mono ?_); rintro e w23 ⟨rfl, hb23⟩; have hl23 := stepAny (by with_reducible assumption) hb23) | (go_at_call 17; (with_reducible refine (HV1.out _ (by with_reducible assumption)).mono ?_); rintro e w24 ⟨rfl, hb24⟩; have hl24 := stepAny (by with_reducible assumption) hb24) | (go_at_call 18; (with_reducible refine (HV3.out _ (by with_reducible assumption)).mono ?_); rintro e w25 ⟨rfl, hb25⟩; have hl25 := stepAny (by with_reducible assumption) hb25) | (go_at_call 19; (with_reducible refine (HE2.out _ (by with_reducible assumption)).mono ?_); rintro e w26 ⟨rfl, hb26⟩; have hl26 := stepAny (by with_reducible assumption) hb26) | (go_at_call 17; (with_reducible refine (HVA.out _ (by with_reducible assumption)).mono ?_); rintro e w27 ⟨rfl, hb27⟩; have hl27 := stepAny (by with_reducible assumption) hb27))
        refine hK.out _ _ (HQ.out _ (by with_reducible assumption)) (fun _ => ?_)
        clear hK K
        (try simp only [Act.put, List.setIfInBounds_toArray, List.set_cons_zero, List.set_cons_succ])
        refine wpAnyH_ready (rs := [32]) (by kernel_rfl) (by simp) ?_
        refine AllReadyH.cons rfl (fun K hK => ?_) AllReadyH.nil
        go_simp
        go_wp2_with (first | (go_at_call 16; (with_reducible refine (HFR.out _ (by with_reducible assumption)).mono ?_); rintro e w20 ⟨rfl, hb20⟩; have hl20 := stepAny (by with_reducible assumption) hb20) | (go_at_call 15; (with_reducible refine (HE1.out _ (by with_reducible assumption)).mono ?_); rintro e w21 ⟨rfl, hb21⟩; have hl21 := stepAny (by with_reducible assumption) hb21) | (go_at_call 15; (with_reducible refine (HE3.out _ (by with_reducible assumption)).mono ?_); rintro e w22 ⟨rfl, hb22⟩; have hl22 := stepAny (by with_reducible assumption) hb22) | (go_at_call 12; (with_reducible refine (HTO.out _ (by with_reducible assumption)).mono ?_); rintro e w23 ⟨rfl, hb23⟩; have hl23 := stepAny (by with_reducible assumption) hb23) | (go_at_call 17; (with_reducible refine (HV1.out _ (by with_reducible assumption)).mono ?_); rintro e w24 ⟨rfl, hb24⟩; have hl24 := stepAny (by with_reducible assumption) hb24) | (go_at_call 18; (with_reducible refine (HV3.out _ (by with_reducible assumption)).mono ?_); rintro e w25 ⟨rfl, hb25⟩; have hl25 := stepAny (by with_reducible assumption) hb25) | (go_at_call 19; (with_reducible refine (HE2.out _ (by with_reducible assumption)).mono ?_); rintro e w26 ⟨rfl, hb26⟩; have hl26 := stepAny (by with_reducible assumption) hb26) | (go_at_call 17; (with_reducible refine (HVA.out _ (by with_reducible assumption)).mono ?_); rintro e w27 ⟨rfl, hb27⟩; have hl27 := stepAny (by with_reducible assumption) hb27))
        refine hK.out _ _ (HQ.out _ (by with_reducible assumption)) (fun _ => ?_)
        clear hK K
        (try simp only [Act.put, List.setIfInBounds_toArray, List.set_cons_zero, List.set_cons_succ])
        refine wpAnyH_take (i := 33) (oi := ⟨some 64, _, _, _, _, _⟩) (v := ?_) rfl (by kernel_rfl) (by kernel_rfl) (by kernel_rfl) (fun _ _ _ h => h) (Or.inl ⟨by rfl, ?hyg33⟩) (HQ.out _ (by with_reducible assumption)) ?reg33
        case hyg33 => ((intro w hSw; (try dsimp only at hSw); go_simp); first | done | with_reducible rfl)
        (try simp only [Act.put, List.setIfInBounds_toArray, List.set_cons_zero, List.set_cons_succ])
        refine wpAnyH_take (i := 34) (oi := ⟨some 65, _, _, _, _, _⟩) (v := ?_) rfl (by kernel_rfl) (by kernel_rfl) (by kernel_rfl) (fun _ _ _ h => h) (Or.inl ⟨by rfl, ?hyg34⟩) (HQ.out _ (by with_reducible assumption)) ?reg34
        case hyg34 => ((intro w hSw; (try dsimp only at hSw); go_simp); first | done | with_reducible rfl)
        (try simp only [Act.put, List.setIfInBounds_toArray, List.set_cons_zero, List.set_cons_succ])
        refine wpAnyH_take (i := 35) (oi := ⟨some 4, _, _, _, _, _⟩) (v := ?_) rfl (by kernel_rfl) (by kernel_rfl) (by kernel_rfl) (fun _ _ _ h => h) (Or.inl ⟨by rfl, ?hyg35⟩) (HQ.out _ (by with_reducible assumption)) ?reg35
        case hyg35 => ((intro w hSw; (try dsimp only at hSw); go_simp); first | done | with_reducible rfl)
        (try simp only [Act.put, List.setIfInBounds_toArray, List.set_cons_zero, List.set_cons_succ])
        refine wpAnyH_done (by kernel_rfl) ?_ _
        refine NoPanic.normal ?_
        go_wp2_with fail
        go_ret
        exact ⟨rfl, stepAny HL5.out (by with_reducible assumption)⟩
      · have hne : (ec != 0) = true := by simpa using hec
        clear HV2
        have hee : (ec == ec) = true := by simp
        clear hec
        have hl0 := low_drew W5
        refine wp_region_noPanic ?_
        refine wp_region_held_drew (S := fun w' => w'.cell? ⟨w.heap.size, 0, none⟩ = some (.slice aub nb cub) ∧ w'.cell? ⟨w.heap.size, 1, none⟩ = some (.bool o) ∧ w'.cell? ⟨w.heap.size, 2, none⟩ = some (.int .i64 ct) ∧ w'.cell? ⟨w.heap.size, 3, none⟩ = some (.int .i64 co) ∧ w'.cell? ⟨w.heap.size, 4, none⟩ = some (.int .i64 cp) ∧ w'.cell? ⟨w.heap.size, 5, none⟩ = some (.slice auc cd.length cuc) ∧ w'.cell? ⟨w.heap.size, 6, none⟩ = some (.int .i64 l) ∧ w'.cell? ⟨w.heap.size, 7, none⟩ = some (.int .i64 lt) ∧ w'.cell? ⟨w.heap.size, 8, none⟩ = some (.int .i64 la) ∧ w'.cell? ⟨w.heap.size, 9, none⟩ = some (.slice aul ld.length cul) ∧ w'.cell? ⟨b, 0, none⟩ = some (.slice a n0 k) ∧ w'.cell? ⟨b, 1, none⟩ = some (.bool o2) ∧ w'.cell? ⟨b, 2, none⟩ = some (.int .i64 ct2) ∧ w'.cell? ⟨b, 3, none⟩ = some (.int .i64 co2) ∧ w'.cell? ⟨b, 4, none⟩ = some (.int .i64 cp2) ∧ w'.cell? ⟨b, 5, none⟩ = some (.slice c n1 d) ∧ w'.cell? ⟨b, 6, none⟩ = some (.int .i64 l2) ∧ w'.cell? ⟨b, 7, none⟩ = some (.int .i64 lt2) ∧ w'.cell? ⟨b, 8, none⟩ = some (.int .i64 la2) ∧ w'.cell? ⟨b, 9, none⟩ = some (.slice r n2 q') ∧ w'.cell? ⟨b7, 0, none⟩ = some (.slice aR n0 kR) ∧ w'.cell? ⟨b7, 1, none⟩ = some (.bool o2) ∧ w'.cell? ⟨b7, 2, none⟩ = some (.int .i64 ct2) ∧ w'.cell? ⟨b7, 3, none⟩ = some (.int .i64 co2) ∧ w'.cell? ⟨b7, 4, none⟩ = some (.int .i64 cp2) ∧ w'.cell? ⟨b7, 5, none⟩ = some (.slice cR n1 dR) ∧ w'.cell? ⟨b7, 6, none⟩ = some (.int .i64 l2) ∧ w'.cell? ⟨b7, 7, none⟩ = some (.int .i64 lt2) ∧ w'.cell? ⟨b7, 8, none⟩ = some (.int .i64 la2) ∧ w'.cell? ⟨b7, 9, none⟩ = some (.slice rR n2 qR)) (by kernel_rfl) (HQ.out _ hl0) (fun _ => ?_)
        refine wpAnyH_take (i := 0) (oi := ⟨some 31, _, _, _, _, _⟩) (v := ?_) rfl (by kernel_rfl) (by kernel_rfl) (by kernel_rfl) (fun _ _ _ h => h) (Or.inl ⟨by rfl, ?hyb0⟩) (HQ.out _ (by with_reducible assumption)) ?reb0
        case hyb0 => ((intro w hSw; (try dsimp only at hSw); go_simp); first | done | with_reducible rfl)
        (try simp only [Act.put, List.setIfInBounds_toArray, List.set_cons_zero, List.set_cons_succ])
        refine wpAnyH_take (i := 1) (oi := ⟨some 32, _, _, _, _, _⟩) (v := ?_) rfl (by kernel_rfl) (by kernel_rfl) (by kernel_rfl) (fun _ _ _ h => h) (Or.inl ⟨by rfl, ?hyb1⟩) (HQ.out _ (by with_reducible assumption)) ?reb1
        case hyb1 => ((intro w hSw; (try dsimp only at hSw); go_simp); first | done | with_reducible rfl)
        (try simp only [Act.put, List.setIfInBounds_toArray, List.set_cons_zero, List.set_cons_succ])
        refine wpAnyH_take (i := 2) (oi := ⟨some 33, _, _, _, _, _⟩) (v := ?_) rfl (by kernel_rfl) (by kernel_rfl) (by kernel_rfl) (fun _ _ _ h => h) (Or.inl ⟨by rfl, ?hyb2⟩) (HQ.out _ (by with_reducible assumption)) ?reb2
        case hyb2 => ((intro w hSw; (try dsimp only at hSw); go_simp); first | done | with_reducible rfl)
        (try simp only [Act.put, List.setIfInBounds_toArray, List.set_cons_zero, List.set_cons_succ])
        refine wpAnyH_take (i := 3) (oi := ⟨some 34, _, _, _, _, _⟩) (v := ?_) rfl (by kernel_rfl) (by kernel_rfl) (by kernel_rfl) (fun _ _ _ h => h) (Or.inl ⟨by rfl, ?hyb3⟩) (HQ.out _ (by with_reducible assumption)) ?reb3
        case hyb3 => ((intro w hSw; (try dsimp only at hSw); go_simp); first | done | with_reducible rfl)
        (try simp only [Act.put, List.setIfInBounds_toArray, List.set_cons_zero, List.set_cons_succ])
        refine wpAnyH_take (i := 4) (oi := ⟨some 35, _, _, _, _, _⟩) (v := ?_) rfl (by kernel_rfl) (by kernel_rfl) (by kernel_rfl) (fun _ _ _ h => h) (Or.inl ⟨by rfl, ?hyb4⟩) (HQ.out _ (by with_reducible assumption)) ?reb4
        case hyb4 => ((intro w hSw; (try dsimp only at hSw); go_simp); first | done | with_reducible rfl)
        (try simp only [Act.put, List.setIfInBounds_toArray, List.set_cons_zero, List.set_cons_succ])
        refine wpAnyH_take (i := 6) (oi := ⟨some 37, _, _, _, _, _⟩) (v := ?_) rfl (by kernel_rfl) (by kernel_rfl) (by kernel_rfl) (fun _ _ _ h => h) (Or.inl ⟨by rfl, ?hyb6⟩) (HQ.out _ (by with_reducible assumption)) ?reb6
        case hyb6 => ((intro w hSw; (try dsimp only at hSw); go_simp); first | done | with_reducible rfl)
        (try simp only [Act.put, List.setIfInBounds_toArray, List.set_cons_zero, List.set_cons_succ])
        refine wpAnyH_ready (rs := [5]) (by kernel_rfl) (by simp) ?_
        refine AllReadyH.cons rfl (fun K hK => ?_) AllReadyH.nil
        go_simp
        go_wp2_with (first | (go_at_call 16; (with_reducible refine (HFR.out _ (by with_reducible assumption)).mono ?_); rintro e w20 ⟨rfl, hb20⟩; have hl20 := stepAny (by with_reducible assumption) hb20) | (go_at_call 15; (with_reducible refine (HE1.out _ (by with_reducible assumption)).mono ?_); rintro e w21 ⟨rfl, hb21⟩; have hl21 := stepAny (by with_reducible assumption) hb21) | (go_at_call 15; (with_reducible refine (HE3.out _ (by with_reducible assumption)).mono ?_); rintro e w22 ⟨rfl, hb22⟩; have hl22 := stepAny (by with_reducible assumption) hb22) | (go_at_call 12; (with_reducible refine (HTO.out _ (by with_reducible assumption)).mono ?_); rintro e w23 ⟨rfl, hb23⟩; have hl23 := stepAny (by with_reducible assumption) hb23) | (go_at_call 17; (with_reducible refine (HV1.out _ (by with_reducible assumption)).mono ?_); rintro e w24 ⟨rfl, hb24⟩; have hl24 := stepAny (by with_reducible assumption) hb24) | (go_at_call 18; (with_reducible refine (HV3.out _ (by with_reducible assumption)).mono ?_); rintro e w25 ⟨rfl, hb25⟩; have hl25 := stepAny (by with_reducible assumption) hb25) | (go_at_call 19; (with_reducible refine (HE2.out _ (by with_reducible assumption)).mono ?_); rintro e w26 ⟨rfl, hb26⟩; have hl26 := stepAny (by with_reducible assumption) hb26))
        refine hK.out _ _ (HQ.out _ (by with_reducible assumption)) (fun _ => ?_)
        clear hK K
        (try simp only [Act.put, List.setIfInBounds_toArray, List.set_cons_zero, List.set_cons_succ])
        refine wpAnyH_ready (rs := [7]) (by kernel_rfl) (by simp) ?_
        refine AllReadyH.cons rfl (fun K hK => ?_) AllReadyH.nil
        go_simp
        go_wp2_with (first | (go_at_call 16; (with_reducible refine (HFR.out _ (by with_reducible assumption)).mono ?_); rintro e w20 ⟨rfl, hb20⟩; have hl20 := stepAny (by with_reducible assumption) hb20) | (go_at_call 15; (with_reducible refine (HE1.out _ (by with_reducible assumption)).mono ?_); rintro e w21 ⟨rfl, hb21⟩; have hl21 := stepAny (by with_reducible assumption) hb21) | (go_at_call 15; (with_reducible refine (HE3.out _ (by with_reducible assumption)).mono ?_); rintro e w22 ⟨rfl, hb22⟩; have hl22 := stepAny (by with_reducible assumption) hb22) | (go_at_call 12; (with_reducible refine (HTO.out _ (by with_reducible assumption)).mono ?_); rintro e w23 ⟨rfl, hb23⟩; have hl23 := stepAny (by with_reducible assumption) hb23) | (go_at_call 17; (with_reducible refine (HV1.out _ (by with_reducible assumption)).mono ?_); rintro e w24 ⟨rfl, hb24⟩; have hl24 := stepAny (by with_reducible assumption) hb24) | (go_at_call 18; (with_reducible refine (HV3.out _ (by with_reducible assumption)).mono ?_); rintro e w25 ⟨rfl, hb25⟩; have hl25 := stepAny (by with_reducible assumption) hb25) | (go_at_call 19; (with_reducible refine (HE2.out _ (by with_reducible assumption)).mono ?_); rintro e w26 ⟨rfl, hb26⟩; have hl26 := stepAny (by with_reducible assumption) hb26))
        refine hK.out _ _ (HQ.out _ (by with_reducible assumption)) (fun _ => ?_)
        clear hK K
        (try simp only [Act.put, List.setIfInBounds_toArray, List.set_cons_zero, List.set_cons_succ])
        refine wpAnyH_take (i := 8) (oi := ⟨some 39, _, _, _, _, _⟩) (v := ?_) rfl (by kernel_rfl) (by kernel_rfl) (by kernel_rfl) (fun _ _ _ h => h) (Or.inl ⟨by rfl, ?hyb8⟩) (HQ.out _ (by with_reducible assumption)) ?reb8
        case hyb8 => ((intro w hSw; (try dsimp only at hSw); go_simp); first | done | with_reducible rfl)
        (try simp only [Act.put, List.setIfInBounds_toArray, List.set_cons_zero, List.set_cons_succ])
        refine wpAnyH_take (i := 9) (oi := ⟨some 40, _, _, _, _, _⟩) (v := ?_) rfl (by kernel_rfl) (by kernel_rfl) (by kernel_rfl) (fun _ _ _ h => h) (Or.inl ⟨by rfl, ?hyb9⟩) (HQ.out _ (by with_reducible assumption)) ?reb9
        case hyb9 => ((intro w hSw; (try dsimp only at hSw); go_simp); first | done | with_reducible rfl)
        (try simp only [Act.put, List.setIfInBounds_toArray, List.set_cons_zero, List.set_cons_succ])
        refine wpAnyH_take (i := 10) (oi := ⟨some 41, _, _, _, _, _⟩) (v := ?_) rfl (by kernel_rfl) (by kernel_rfl) (by kernel_rfl) (fun _ _ _ h => h) (Or.inl ⟨by rfl, ?hyb10⟩) (HQ.out _ (by with_reducible assumption)) ?reb10
        case hyb10 => ((intro w hSw; (try dsimp only at hSw); go_simp); first | done | with_reducible rfl)
        (try simp only [Act.put, List.setIfInBounds_toArray, List.set_cons_zero, List.set_cons_succ])
        refine wpAnyH_take (i := 13) (oi := ⟨some 44, _, _, _, _, _⟩) (v := ?_) rfl (by kernel_rfl) (by kernel_rfl) (by kernel_rfl) (fun _ _ _ h => h) (Or.inl ⟨by rfl, ?hyb13⟩) (HQ.out _ (by with_reducible assumption)) ?reb13
        case hyb13 => ((intro w hSw; (try dsimp only at hSw); go_simp); first | done | with_reducible rfl)
        (try simp only [Act.put, List.setIfInBounds_toArray, List.set_cons_zero, List.set_cons_succ])
        refine wpAnyH_ready (rs := [11]) (by kernel_rfl) (by simp) ?_
        refine AllReadyH.cons rfl (fun K hK => ?_) AllReadyH.nil
        go_simp
        go_wp2_with (first | (go_at_call 16; (with_reducible refine (HFR.out _ (by with_reducible assumption)).mono ?_); rintro e w20 ⟨rfl, hb20⟩; have hl20 := stepAny (by with_reducible assumption) hb20) | (go_at_call 15; (with_reducible refine (HE1.out _ (by with_reducible assumption)).mono ?_); rintro e w21 ⟨rfl, hb21⟩; have hl21 := stepAny (by with_reducible assumption) hb21) | (go_at_call 15; (with_reducible refine (HE3.out _ (by with_reducible assumption)).mono ?_); rintro e w22 ⟨rfl, hb22⟩; have hl22 := stepAny (by with_reducible assumption) hb22) | (go_at_call 12; (with_reducible refine (HTO.out _ (by with_reducible assumption)).mono ?_); rintro e w23 ⟨rfl, hb23⟩; have hl23 := stepAny (by with_reducible assumption) hb23) | (go_at_call 17; (with_reducible refine (HV1.out _ (by with_reducible assumption)).mono ?_); rintro e w24 ⟨rfl, hb24⟩; have hl24 := stepAny (by with_reducible assumption) hb24) | (go_at_call 18; (with_reducible refine (HV3.out _ (by with_reducible assumption)).mono ?_); rintro e w25 ⟨rfl, hb25⟩; have hl25 := stepAny (by with_reducible assumption) hb25) | (go_at_call 19; (with_reducible refine (HE2.out _ (by with_reducible assumption)).mono ?_); rintro e w26 ⟨rfl, hb26⟩; have hl26 := stepAny (by with_reducible assumption) hb26))
        refine hK.out _ _ (HQ.out _ (by with_reducible assumption)) (fun _ => ?_)
        clear hK K
        (try simp only [Act.put, List.setIfInBounds_toArray, List.set_cons_zero, List.set_cons_succ])
        refine wpAnyH_ready (rs := [12]) (by kernel_rfl) (by simp) ?_
        refine AllReadyH.cons rfl (fun K hK => ?_) AllReadyH.nil
        go_simp
        go_wp2_with (first | (go_at_call 16; (with_reducible refine (HFR.out _ (by with_reducible assumption)).mono ?_); rintro e w20 ⟨rfl, hb20⟩; have hl20 := stepAny (by with_reducible assumption) hb20) | (go_at_call 15; (with_reducible refine (HE1.out _ (by with_reducible assumption)).mono ?_); rintro e w21 ⟨rfl, hb21⟩; have hl21 := stepAny (by with_reducible assumption) hb21) | (go_at_call 15; (with_reducible refine (HE3.out _ (by with_reducible assumption)).mono ?_); rintro e w22 ⟨rfl, hb22⟩; have hl22 := stepAny (by with_reducible assumption) hb22) | (go_at_call 12; (with_reducible refine (HTO.out _ (by with_reducible assumption)).mono ?_); rintro e w23 ⟨rfl, hb23⟩; have hl23 := stepAny (by with_reducible assumption) hb23) | (go_at_call 17; (with_reducible refine (HV1.out _ (by with_reducible assumption)).mono ?_); rintro e w24 ⟨rfl, hb24⟩; have hl24 := stepAny (by with_reducible assumption) hb24) | (go_at_call 18; (with_reducible refine (HV3.out _ (by with_reducible assumption)).mono ?_); rintro e w25 ⟨rfl, hb25⟩; have hl25 := stepAny (by with_reducible assumption) hb25) | (go_at_call 19; (with_reducible refine (HE2.out _ (by with_reducible assumption)).mono ?_); rintro e w26 ⟨rfl, hb26⟩; have hl26 := stepAny (by with_reducible assumption) hb26))
        refine hK.out _ _ (HQ.out _ (by with_reducible assumption)) (fun _ => ?_)
        clear hK K
        (try simp only [Act.put, List.setIfInBounds_toArray, List.set_cons_zero, List.set_cons_succ])
        refine wpAnyH_ready (rs := [14]) (by kernel_rfl) (by simp) ?_
        refine AllReadyH.cons rfl (fun K hK => ?_) AllReadyH.nil
        go_simp
        go_wp2_with (first | (go_at_call 16; (with_reducible refine (HFR.out _ (by with_reducible assumption)).mono ?_); rintro e w20 ⟨rfl, hb20⟩; have hl20 := stepAny (by with_reducible assumption) hb20) | (go_at_call 15; (with_reducible refine (HE1.out _ (by with_reducible assumption)).mono ?_); rintro e w21 ⟨rfl, hb21⟩; have hl21 := stepAny (by with_reducible assumption) hb21) | (go_at_call 15; (with_reducible refine (HE3.out _ (by with_reducible assumption)).mono ?_); rintro e w22 ⟨rfl, hb22⟩; have hl22 := stepAny (by with_reducible assumption) hb22) | (go_at_call 12; (with_reducible refine (HTO.out _ (by with_reducible assumption)).mono ?_); rintro e w23 ⟨rfl, hb23⟩; have hl23 := stepAny (by with_reducible assumption) hb23) | (go_at_call 17; (with_reducible refine (HV1.out _ (by with_reducible assumption)).mono ?_); rintro e w24 ⟨rfl, hb24⟩; have hl24 := stepAny (by with_reducible assumption) hb24) | (go_at_call 18; (with_reducible refine (HV3.out _ (by with_reducible assumption)).mono ?_); rintro e w25 ⟨rfl, hb25⟩; have hl25 := stepAny (by with_reducible assumption) hb25) | (go_at_call 19; (with_reducible refine (HE2.out _ (by with_reducible assumption)).mono ?_); rintro e w26 ⟨rfl, hb26⟩; have hl26 := stepAny (by with_reducible assumption) hb26))
        refine hK.out _ _ (HQ.out _ (by with_reducible assumption)) (fun _ => ?_)
        clear hK K
        (try simp only [Act.put, List.setIfInBounds_toArray, List.set_cons_zero, List.set_cons_succ])
        refine wpAnyH_take (i := 15) (oi := ⟨some 46, _, _, _, _, _⟩) (v := ?_) rfl (by kernel_rfl) (by kernel_rfl) (by kernel_rfl) (fun _ _ _ h => h) (Or.inl ⟨by rfl, ?hyb15⟩) (HQ.out _ (by with_reducible assumption)) ?reb15
        case hyb15 => ((intro w hSw; (try dsimp only at hSw); go_simp); first | done | with_reducible rfl)
        (try simp only [Act.put, List.setIfInBounds_toArray, List.set_cons_zero, List.set_cons_succ])
        refine wpAnyH_take (i := 16) (oi := ⟨some 47, _, _, _, _, _⟩) (v := ?_) rfl (by kernel_rfl) (by kernel_rfl) (by kernel_rfl) (fun _ _ _ h => h) (Or.inl ⟨by rfl, ?hyb16⟩) (HQ.out _ (by with_reducible assumption)) ?reb16
        case hyb16 => ((intro w hSw; (try dsimp only at hSw); go_simp); first | done | with_reducible rfl)
        (try simp only [Act.put, List.setIfInBounds_toArray, List.set_cons_zero, List.set_cons_succ])
        refine wpAnyH_take (i := 17) (oi := ⟨some 48, _, _, _, _, _⟩) (v := ?_) rfl (by kernel_rfl) (by kernel_rfl) (by kernel_rfl) (fun _ _ _ h => h) (Or.inl ⟨by rfl, ?hyb17⟩) (HQ.out _ (by with_reducible assumption)) ?reb17
        case hyb17 => ((intro w hSw; (try dsimp only at hSw); go_simp); first | done | with_reducible rfl)
        (try simp only [Act.put, List.setIfInBounds_toArray, List.set_cons_zero, List.set_cons_succ])
        refine wpAnyH_take (i := 18) (oi := ⟨some 49, _, _, _, _, _⟩) (v := ?_) rfl (by kernel_rfl) (by kernel_rfl) (by kernel_rfl) (fun _ _ _ h => h) (Or.inl ⟨by rfl, ?hyb18⟩) (HQ.out _ (by with_reducible assumption)) ?reb18
        case hyb18 => ((intro w hSw; (try dsimp only at hSw); go_simp); first | done | with_reducible rfl)
        (try simp only [Act.put, List.setIfInBounds_toArray, List.set_cons_zero, List.set_cons_succ])
        refine wpAnyH_take (i := 19) (oi := ⟨some 50, _, _, _, _, _⟩) (v := ?_) rfl (by kernel_rfl) (by kernel_rfl) (by kernel_rfl) (fun _ _ _ h => h) (Or.inl ⟨by rfl, ?hyb19⟩) (HQ.out _ (by with_reducible assumption)) ?reb19
        case hyb19 => ((intro w hSw; (try dsimp only at hSw); go_simp); first | done | with_reducible rfl)
        (try simp only [Act.put, List.setIfInBounds_toArray, List.set_cons_zero, List.set_cons_succ])
        refine wpAnyH_take (i := 20) (oi := ⟨some 51, _, _, _, _, _⟩) (v := ?_) rfl (by kernel_rfl) (by kernel_rfl) (by kernel_rfl) (fun _ _ _ h => h) (Or.inl ⟨by rfl, ?hyb20⟩) (HQ.out _ (by with_reducible assumption)) ?reb20
        case hyb20 => ((intro w hSw; (try dsimp only at hSw); go_simp); first | done | with_reducible rfl)
        (try simp only [Act.put, List.setIfInBounds_toArray, List.set_cons_zero, List.set_cons_succ])
        refine wpAnyH_take (i := 21) (oi := ⟨some 52, _, _, _, _, _⟩) (v := undef) rfl (by kernel_rfl) (by kernel_rfl) (by kernel_rfl) (fun _ _ _ h => h) (Or.inr ⟨by rfl, rfl⟩) (HQ.out _ (by with_reducible assumption)) ?_
        (try simp only [Act.put, List.setIfInBounds_toArray, List.set_cons_zero, List.set_cons_succ])
        refine wpAnyH_take (i := 22) (oi := ⟨some 53, _, _, _, _, _⟩) (v := undef) rfl (by kernel_rfl) (by kernel_rfl) (by kernel_rfl) (fun _ _ _ h => h) (Or.inr ⟨by rfl, rfl⟩) (HQ.out _ (by with_reducible assumption)) ?_
        (try simp only [Act.put, List.setIfInBounds_toArray, List.set_cons_zero, List.set_cons_succ])
        refine wpAnyH_take (i := 23) (oi := ⟨some 54, _, _, _, _, _⟩) (v := ?_) rfl (by kernel_rfl) (by kernel_rfl) (by kernel_rfl) (fun _ _ _ h => h) (Or.inl ⟨by rfl, ?hyb23⟩) (HQ.out _ (by with_reducible assumption)) ?reb23
        case hyb23 => ((intro w hSw; (try dsimp only at hSw); go_simp); first | done | with_reducible rfl)
        (try simp only [Act.put, List.setIfInBounds_toArray, List.set_cons_zero, List.set_cons_succ])
        refine wpAnyH_take (i := 24) (oi := ⟨some 55, _, _, _, _, _⟩) (v := ?_) rfl (by kernel_rfl) (by kernel_rfl) (by kernel_rfl) (fun _ _ _ h => h) (Or.inl ⟨by rfl, ?hyb24⟩) (HQ.out _ (by with_reducible assumption)) ?reb24
        case hyb24 => ((intro w hSw; (try dsimp only at hSw); go_simp); first | done | with_reducible rfl)
        (try simp only [Act.put, List.setIfInBounds_toArray, List.set_cons_zero, List.set_cons_succ])
        refine wpAnyH_take (i := 25) (oi := ⟨some 56, _, _, _, _, _⟩) (v := ?_) rfl (by kernel_rfl) (by kernel_rfl) (by kernel_rfl) (fun _ _ _ h => h) (Or.inl ⟨by rfl, ?hyb25⟩) (HQ.out _ (by with_reducible assumption)) ?reb25
        case hyb25 => ((intro w hSw; (try dsimp only at hSw); go_simp); first | done | with_reducible rfl)
        (try simp only [Act.put, List.setIfInBounds_toArray, List.set_cons_zero, List.set_cons_succ])
        refine wpAnyH_take (i := 26) (oi := ⟨some 57, _, _, _, _, _⟩) (v := ?_) rfl (by kernel_rfl) (by kernel_rfl) (by kernel_rfl) (fun _ _ _ h => h) (Or.inl ⟨by rfl, ?hyb26⟩) (HQ.out _ (by with_reducible assumption)) ?reb26
        case hyb26 => ((intro w hSw; (try dsimp only at hSw); go_simp); first | done | with_reducible rfl)
        (try simp only [Act.put, List.setIfInBounds_toArray, List.set_cons_zero, List.set_cons_succ])
        refine wpAnyH_take (i := 28) (oi := ⟨some 59, _, _, _, _, _⟩) (v := ?_) rfl (by kernel_rfl) (by kernel_rfl) (by kernel_rfl) (fun _ _ _ h => h) (Or.inl ⟨by rfl, ?hyb28⟩) (HQ.out _ (by with_reducible assumption)) ?reb28
        case hyb28 => ((intro w hSw; (try dsimp only at hSw); go_simp); first | done | with_reducible rfl)
        (try simp only [Act.put, List.setIfInBounds_toArray, List.set_cons_zero, List.set_cons_succ])
        refine wpAnyH_take (i := 30) (oi := ⟨some 61, _, _, _, _, _⟩) (v := ?_) rfl (by kernel_rfl) (by kernel_rfl) (by kernel_rfl) (fun _ _ _ h => h) (Or.inl ⟨by rfl, ?hyb30⟩) (HQ.out _ (by with_reducible assumption)) ?reb30
        case hyb30 => ((intro w hSw; (try dsimp only at hSw); go_simp); first | done | with_reducible rfl)
        (try simp only [Act.put, List.setIfInBounds_toArray, List.set_cons_zero, List.set_cons_succ])
        refine wpAnyH_take (i := 31) (oi := ⟨some 62, _, _, _, _, _⟩) (v := ?_) rfl (by kernel_rfl) (by kernel_rfl) (by kernel_rfl) (fun _ _ _ h => h) (Or.inl ⟨by rfl, ?hyb31⟩) (HQ.out _ (by with_reducible assumption)) ?reb31
        case hyb31 => ((intro w hSw; (try dsimp only at hSw); go_simp); first | done | with_reducible rfl)
        (try simp only [Act.put, List.setIfInBounds_toArray, List.set_cons_zero, List.set_cons_succ])
        refine wpAnyH_ready (rs := [27]) (by kernel_rfl) (by simp) ?_
        refine AllReadyH.cons rfl (fun K hK => ?_) AllReadyH.nil
        go_simp
        go_wp2_with (first | (go_at_call 16; (with_reducible refine (HFR.out _ (by with_reducible assumption)).mono ?_); rintro e w20 ⟨rfl, hb20⟩; have hl20 := stepAny (by with_reducible assumption) hb20) | (go_at_call 15; (with_reducible refine (HE1.out _ (by with_reducible assumption)).mono ?_); rintro e w21 ⟨rfl, hb21⟩; have hl21 := stepAny (by with_reducible assumption) hb21) | (go_at_call 15; (with_reducible refine (HE3.out _ (by with_reducible assumption)).mono ?_); rintro e w22 ⟨rfl, hb22⟩; have hl22 := stepAny (by with_reducible assumption) hb22) | (go_at_call 12; (with_reducible refine (HTO.out _ (by with_reducible assumption)).mono ?_); rintro e w23 ⟨rfl, hb23⟩; have hl23 := stepAny (by with_reducible assumption) hb23) | (go_at_call 17; (with_reducible refine (HV1.out _ (by with_reducible assumption)).mono ?_); rintro e w24 ⟨rfl, hb24⟩; have hl24 := stepAny (by with_reducible assumption) hb24) | (go_at_call 18; (with_reducible refine (HV3.out _ (by with_reducible assumption)).mono ?_); rintro e w25 ⟨rfl, hb25⟩; have hl25 := stepAny (by with_reducible assumption) hb25) | (go_at_call 19; (with_reducible refine (HE2.out _ (by with_reducible assumption)).mono ?_); rintro e w26 ⟨rfl, hb26⟩; have hl26 := stepAny (by with_reducible assumption) hb26))
        refine hK.out _ _ (HQ.out _ (by with_reducible assumption)) (fun _ => ?_)
        clear hK K
        (try simp only [Act.put, List.setIfInBounds_toArray, List.set_cons_zero, List.set_cons_succ])
        refine wpAnyH_ready (rs := [29]) (by kernel_rfl) (by simp) ?_
        refine AllReadyH.cons rfl (fun K hK => ?_) AllReadyH.nil
        go_simp
        go_wp2_with (first | (go_at_call 16; (with_reducible refine (HFR.out _ (by with_reducible assumption)).mono ?_); rintro e w20 ⟨rfl, hb20⟩; have hl20 := stepAny (by with_reducible assumption) hb20) | (go_at_call 15; (with_reducible refine (HE1.out _ (by with_reducible assumption)).mono ?_); rintro e w21 ⟨rfl, hb21⟩; have hl21 := stepAny (by with_reducible assumption) hb21) | (go_at_call 15; (with_reducible refine (HE3.out _ (by with_reducible assumption)).mono ?_); rintro e w22 ⟨rfl, hb22⟩; have hl22 := stepAny (by with_reducible assumption) hb22) | (go_at_call 12; (with_reducible refine (HTO.out _ (by with_reducible assumption)).mono ?_); rintro e w23 ⟨rfl, hb23⟩; have hl23 := stepAny (by with_reducible assumption) hb23) | (go_at_call 17; (with_reducible refine (HV1.out _ (by with_reducible assumption)).mono ?_); rintro e w24 ⟨rfl, hb24⟩; have hl24 := stepAny (by with_reducible assumption) hb24) | (go_at_call 18; (with_reducible refine (HV3.out _ (by with_reducible assumption)).mono ?_); rintro e w25 ⟨rfl, hb25⟩; have hl25 := stepAny (by with_reducible assumption) hb25) | (go_at_call 19; (with_reducible refine (HE2.out _ (by with_reducible assumption)).mono ?_); rintro e w26 ⟨rfl, hb26⟩; have hl26 := stepAny (by with_reducible assumption) hb26))
        refine hK.out _ _ (HQ.out _ (by with_reducible assumption)) (fun _ => ?_)
        clear hK K
        (try simp only [Act.put, List.setIfInBounds_toArray, List.set_cons_zero, List.set_cons_succ])
        refine wpAnyH_ready (rs := [32]) (by kernel_rfl) (by simp) ?_
        refine AllReadyH.cons rfl (fun K hK => ?_) AllReadyH.nil
        go_simp
        go_wp2_with (first | (go_at_call 16; (with_reducible refine (HFR.out _ (by with_reducible assumption)).mono ?_); rintro e w20 ⟨rfl, hb20⟩; have hl20 := stepAny (by with_reducible assumption) hb20) | (go_at_call 15; (with_reducible refine (HE1.out _ (by with_reducible assumption)).mono ?_); rintro e w21 ⟨rfl, hb21⟩; have hl21 := stepAny (by with_reducible assumption) hb21) | (go_at_call 15; (with_reducible refine (HE3.out _ (by with_reducible assumption)).mono ?_); rintro e w22 ⟨rfl, hb22⟩; have hl22 := stepAny (by with_reducible assumption) hb22) | (go_at_call 12; (with_reducible refine (HTO.out _ (by with_reducible assumption)).mono ?_); rintro e w23 ⟨rfl, hb23⟩; have hl23 := stepAny (by with_reducible assumption) hb23) | (go_at_call 17; (with_reducible refine (HV1.out _ (by with_reducible assumption)).mono ?_); rintro e w24 ⟨rfl, hb24⟩; have hl24 := stepAny (by with_reducible assumption) hb24) | (go_at_call 18; (with_reducible refine (HV3.out _ (by with_reducible assumption)).mono ?_); rintro e w25 ⟨rfl, hb25⟩; have hl25 := stepAny (by with_reducible assumption) hb25) | (go_at_call 19; (with_reducible refine (HE2.out _ (by with_reducible assumption)).mono ?_); rintro e w26 ⟨rfl, hb26⟩; have hl26 := stepAny (by with_reducible assumption) hb26))
        refine hK.out _ _ (HQ.out _ (by with_reducible assumption)) (fun _ => ?_)
        clear hK K
        (try simp only [Act.put, List.setIfInBounds_toArray, List.set_cons_zero, List.set_cons_succ])
        refine wpAnyH_take (i := 33) (oi := ⟨some 64, _, _, _, _, _⟩) (v := ?_) rfl (by kernel_rfl) (by kernel_rfl) (by kernel_rfl) (fun _ _ _ h => h) (Or.inl ⟨by rfl, ?hyb33⟩) (HQ.out _ (by with_reducible assumption)) ?reb33
        case hyb33 => ((intro w hSw; (try dsimp only at hSw); go_simp); first | done | with_reducible rfl)
        (try simp only [Act.put, List.setIfInBounds_toArray, List.set_cons_zero, List.set_cons_succ])
        refine wpAnyH_take (i := 34) (oi := ⟨some 65, _, _, _, _, _⟩) (v := ?_) rfl (by kernel_rfl) (by kernel_rfl) (by kernel_rfl) (fun _ _ _ h => h) (Or.inl ⟨by rfl, ?hyb34⟩) (HQ.out _ (by with_reducible assumption)) ?reb34
        case hyb34 => ((intro w hSw; (try dsimp only at hSw); go_simp); first | done | with_reducible rfl)
        (try simp only [Act.put, List.setIfInBounds_toArray, List.set_cons_zero, List.set_cons_succ])
        refine wpAnyH_take (i := 35) (oi := ⟨some 4, _, _, _, _, _⟩) (v := ?_) rfl (by kernel_rfl) (by kernel_rfl) (by kernel_rfl) (fun _ _ _ h => h) (Or.inl ⟨by rfl, ?hyb35⟩) (HQ.out _ (by with_reducible assumption)) ?reb35
        case hyb35 => ((intro w hSw; (try dsimp only at hSw); go_simp); first | done | with_reducible rfl)
        (try simp only [Act.put, List.setIfInBounds_toArray, List.set_cons_zero, List.set_cons_succ])
        refine wpAnyH_done (by kernel_rfl) ?_ _
        refine NoPanic.normal ?_
        go_wp2_with fail
        go_ret
        exact ⟨rfl, stepAny HL5.out (by with_reducible assumption)⟩
end Go.Proofs.Yteeoonoccklhmaa
