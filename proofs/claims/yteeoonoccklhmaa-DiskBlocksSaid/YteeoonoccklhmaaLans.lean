/-
  The walk of DiskAnswers (printed by gen/mk11ans.py).
-/
import Derived.Test.YteeoonoccklhmaaGotd
import Derived.Deep.DeepCutAuto
namespace Go.Proofs.Yteeoonoccklhmaa
open Go.RowKit
theorem Keeps.lo {w W : World} {L : List (Nat × TypeId × List Value)} (h : Keeps w L W) : Below w.heap.size w W := h.1

theorem Dw.less' {B : Nat} {X Y : Nat → Prop} {W : World} {ub uc ul : Value} {es : List Tr} {bs : List (List UInt8)} {cd ld : List UInt8} (h : Dw B X W ub uc ul es bs cd ld) (k : ∀ b, Y b → X b) : Dw B Y W ub uc ul es bs cd ld := ⟨h.r, h.n, Av.less h.e (fun b _ hy => k b hy), h.c, h.l⟩
theorem few_sized {bs : List (List UInt8)} {o : Bool} {ct co cp l lt la : Int} {cd ld : List UInt8} (h : Dk.few (bs, (o, (ct, co, cp, cd), l, (lt, la, ld))) = true) : bs.length ≤ 200 ∧ cd.length ≤ 300 ∧ ld.length ≤ 300 := by
  unfold Dk.few at h
  simp only [Bool.and_eq_true, decide_eq_true_eq] at h
  exact h.2

set_option maxRecDepth 100000 in
set_option maxHeartbeats 8000000 in
theorem lans_w {w : World} {v0 v1 : Value} (h0 : IsDisk w v0) (h1 : IsCmd w v1) :
    Calls Try.prog 3 #[v0, v1] w fun e w' => e = .returned (.bool true) ∧ Below w.heap.size w w' := by
  obtain ⟨o, ct, co, cp, l, lt, la, ub, uc, ul, bs, cd, ld, rfl, hdr, -⟩ := h0
  obtain ⟨t, q, p, ux, xs, rfl, hx, -⟩ := h1
  obtain ⟨es, hde⟩ := hdr.de
  obtain ⟨aub, cub, hub, -⟩ := id hde.r
  obtain ⟨auc, cuc, huc, -⟩ := id hde.c
  obtain ⟨aul, cul, hul, -⟩ := id hde.l
  obtain ⟨ax, cx, hux, -⟩ := id hx
  obtain ⟨nb, hnb⟩ : ∃ n, n = es.length := ⟨_, rfl⟩
  rw [← hnb] at hub
  subst hub huc hul hux
  have HNB := Lib.hid hnb
  have HDE := Lib.hid hde
  have HX := Lib.hid hx
  have hk0 : Keeps w [(w.heap.size + 1, 25, [.int .i64 t, .int .i64 q, .int .i64 p, .slice ax xs.length cx]), (w.heap.size, 31, [.slice aub nb cub, .bool o, .int .i64 ct, .int .i64 co, .int .i64 cp, .slice auc cd.length cuc, .int .i64 l, .int .i64 lt, .int .i64 la, .slice aul ld.length cul])] ((w.alloc (.cells #[.slice aub nb cub, .bool o, .int .i64 ct, .int .i64 co, .int .i64 cp, .slice auc cd.length cuc, .int .i64 l, .int .i64 lt, .int .i64 la, .slice aul ld.length cul] 31 (0, 0))).alloc (.cells #[.int .i64 t, .int .i64 q, .int .i64 p, .slice ax xs.length cx] 25 (0, 0))) := ((Keeps.start w).add 31 [.slice aub nb cub, .bool o, .int .i64 ct, .int .i64 co, .int .i64 cp, .slice auc cd.length cuc, .int .i64 l, .int .i64 lt, .int .i64 la, .slice aul ld.length cul] rfl).add 25 [.int .i64 t, .int .i64 q, .int .i64 p, .slice ax xs.length cx] (by simp)
  have HC0 : Hid (∀ W, Keeps w [(w.heap.size + 1, 25, [.int .i64 t, .int .i64 q, .int .i64 p, .slice ax xs.length cx]), (w.heap.size, 31, [.slice aub nb cub, .bool o, .int .i64 ct, .int .i64 co, .int .i64 cp, .slice auc cd.length cuc, .int .i64 l, .int .i64 lt, .int .i64 la, .slice aul ld.length cul])] W → (W.cell? ⟨w.heap.size, 0, none⟩ = some (.slice aub nb cub) ∧ W.cell? ⟨w.heap.size, 1, none⟩ = some (.bool o) ∧ W.cell? ⟨w.heap.size, 2, none⟩ = some (.int .i64 ct) ∧ W.cell? ⟨w.heap.size, 3, none⟩ = some (.int .i64 co) ∧ W.cell? ⟨w.heap.size, 4, none⟩ = some (.int .i64 cp) ∧ W.cell? ⟨w.heap.size, 5, none⟩ = some (.slice auc cd.length cuc) ∧ W.cell? ⟨w.heap.size, 6, none⟩ = some (.int .i64 l) ∧ W.cell? ⟨w.heap.size, 7, none⟩ = some (.int .i64 lt) ∧ W.cell? ⟨w.heap.size, 8, none⟩ = some (.int .i64 la) ∧ W.cell? ⟨w.heap.size, 9, none⟩ = some (.slice aul ld.length cul)) ∧ (W.cell? ⟨(w.heap.size + 1), 0, none⟩ = some (.int .i64 t) ∧ W.cell? ⟨(w.heap.size + 1), 1, none⟩ = some (.int .i64 q) ∧ W.cell? ⟨(w.heap.size + 1), 2, none⟩ = some (.int .i64 p) ∧ W.cell? ⟨(w.heap.size + 1), 3, none⟩ = some (.slice ax xs.length cx))) := fun W hW => by
    have e1 := hW.2 _ (.head _)
    have e0 := hW.2 _ (.tail _ (.head _))
    exact ⟨⟨e0.cell 0, e0.cell 1, e0.cell 2, e0.cell 3, e0.cell 4, e0.cell 5, e0.cell 6, e0.cell 7, e0.cell 8, e0.cell 9⟩, e1.cell 0, e1.cell 1, e1.cell 2, e1.cell 3⟩
  have HF : Hid (∀ W, Below w.heap.size w W → Calls Try.prog 10 #[.agg #[.slice aub nb cub, .bool o, .int .i64 ct, .int .i64 co, .int .i64 cp, .slice auc cd.length cuc, .int .i64 l, .int .i64 lt, .int .i64 la, .slice aul ld.length cul], .agg #[.int .i64 t, .int .i64 q, .int .i64 p, .slice ax xs.length cx]] W fun e w' => e = .returned (.bool (Dk.few (bs, (o, (ct, co, cp, cd), l, (lt, la, ld))) && decide (xs.length ≤ 300))) ∧ Below W.heap.size W w') := fun W hW => lfew_w o ct co cp l lt la t q p (hdr.below hW (Nat.le_refl _)) (hx.below hW (Nat.le_refl _))
  have HK0 := Lib.hid hk0
  clear hk0 hdr hde hx hnb
  cases hfw : (Dk.few (bs, (o, (ct, co, cp, cd), l, (lt, la, ld))) && decide (xs.length ≤ 300)) with
  | false =>
    rw [hfw] at HF
    clear hfw
    go_enter Try.func3, Try.ntmps3
    go_wp2_with (first
      | (go_at_call 10; (with_reducible refine (HF.out _ hk1.lo).mono ?_); rintro e w2 ⟨rfl, hb2⟩; have hk2 := hk1.step hb2; have tok := True.intro)
      | (go_at_call 9; have _t := tok; refine (awake_w w2).mono ?_; rintro e w3 ⟨rfl, hb3⟩)
      | (go_at_call 9; refine (awake_w _).mono ?_; rintro e w1 ⟨rfl, hb1⟩; have hk1 := HK0.out.step hb1; obtain ⟨⟨p0, p1, p2, p3, p4, p5, p6, p7, p8, p9⟩, y0, y1, y2, y3⟩ := HC0.out _ hk1))
    go_ret
    exact ⟨rfl, (hk2.step hb3).1⟩
  | true =>
    rw [hfw] at HF
    rw [Bool.and_eq_true, decide_eq_true_eq] at hfw
    obtain ⟨hf1, h300⟩ := hfw
    obtain ⟨hz1, hz2, hz3⟩ := few_sized hf1
    clear hf1
    obtain ⟨⟨bs2, o2, ⟨ct2, co2, cp2, cd2⟩, l2, lt2, la2, ld2⟩, ec, hg⟩ : ∃ (s : Dk.St) (e : Int), Dk.give (bs, (o, (ct, co, cp, cd), l, (lt, la, ld))) (t, q, p, xs) = (s, e) := ⟨_, _, rfl⟩
    have HG := Lib.hid hg
    obtain ⟨n0, hn0⟩ : ∃ n, n = bs2.length := ⟨_, rfl⟩
    obtain ⟨n1, hn1⟩ : ∃ n, n = cd2.length := ⟨_, rfl⟩
    obtain ⟨n2, hn2⟩ : ∃ n, n = ld2.length := ⟨_, rfl⟩
    have HDO : Hid (∀ W, Below w.heap.size w W → Calls Try.prog 11 #[.agg #[.slice aub nb cub, .bool o, .int .i64 ct, .int .i64 co, .int .i64 cp, .slice auc cd.length cuc, .int .i64 l, .int .i64 lt, .int .i64 la, .slice aul ld.length cul], .agg #[.int .i64 t, .int .i64 q, .int .i64 p, .slice ax xs.length cx]] W fun e w' => ∃ a k c d r q' es2, e = .returned (.tuple #[.agg #[.slice a n0 k, .bool o2, .int .i64 ct2, .int .i64 co2, .int .i64 cp2, .slice c n1 d, .int .i64 l2, .int .i64 lt2, .int .i64 la2, .slice r n2 q'], .int .i64 ec]) ∧ Dw W.heap.size (fun x => w.heap.size ≤ x) w' (.slice a n0 k) (.slice c n1 d) (.slice r n2 q') es2 bs2 cd2 ld2 ∧ Below W.heap.size W w') := fun W hW =>
      do_f (X := fun x => w.heap.size ≤ x) o ct co cp l lt la t q p (HDE.out.below hW (Nat.le_refl _)) ((Av.start (X := fun x => w.heap.size ≤ x) (W := w) (P := fun W => ∀ i (h : i < es.length) (h' : i < bs.length), Sl eb W (et es[i]) bs[i]) (fun W' hk i h h' => (HDE.out.keep hk).e i h h') (fun x h => h)).below hW) (HX.out.below hW (Nat.le_refl _)) (by have := HDE.out.n; omega) (by omega) (by omega) (by omega) HG.out hn0.symm hn1.symm hn2.symm
    have HTO := Lib.hid (fun W => to_w o ct co cp l lt la aub auc aul nb cub cd.length cuc ld.length cul W)
    have HN0 := Lib.hid hn0
    have HN1 := Lib.hid hn1
    have HN2 := Lib.hid hn2
    clear hg hn0 hn1 hn2
    go_enter Try.func3, Try.ntmps3
    go_upto_region 3 with (first
      | (go_at_call 10; (with_reducible refine (HF.out _ hk1.lo).mono ?_); rintro e w2 ⟨rfl, hb2⟩; have hk2 := hk1.step hb2)
      | (go_at_call 9; refine (awake_w _).mono ?_; rintro e w1 ⟨rfl, hb1⟩; have hk1 := HK0.out.step hb1; obtain ⟨⟨p0, p1, p2, p3, p4, p5, p6, p7, p8, p9⟩, y0, y1, y2, y3⟩ := HC0.out _ hk1))
    clear p0 p1 p2 p3 p4 p5 p6 p7 p8 p9 y0 y1 y2 y3 hb1 hk1 hb2
    have HK2 := Lib.hid hk2
    have HQ : Hid (∀ W, Below w2.heap.size w2 W → W.cell? ⟨w.heap.size, 0, none⟩ = some (.slice aub nb cub) ∧ W.cell? ⟨w.heap.size, 1, none⟩ = some (.bool o) ∧ W.cell? ⟨w.heap.size, 2, none⟩ = some (.int .i64 ct) ∧ W.cell? ⟨w.heap.size, 3, none⟩ = some (.int .i64 co) ∧ W.cell? ⟨w.heap.size, 4, none⟩ = some (.int .i64 cp) ∧ W.cell? ⟨w.heap.size, 5, none⟩ = some (.slice auc cd.length cuc) ∧ W.cell? ⟨w.heap.size, 6, none⟩ = some (.int .i64 l) ∧ W.cell? ⟨w.heap.size, 7, none⟩ = some (.int .i64 lt) ∧ W.cell? ⟨w.heap.size, 8, none⟩ = some (.int .i64 la) ∧ W.cell? ⟨w.heap.size, 9, none⟩ = some (.slice aul ld.length cul) ∧ W.cell? ⟨(w.heap.size + 1), 0, none⟩ = some (.int .i64 t) ∧ W.cell? ⟨(w.heap.size + 1), 1, none⟩ = some (.int .i64 q) ∧ W.cell? ⟨(w.heap.size + 1), 2, none⟩ = some (.int .i64 p) ∧ W.cell? ⟨(w.heap.size + 1), 3, none⟩ = some (.slice ax xs.length cx)) := fun W hW => by
      obtain ⟨⟨p0, p1, p2, p3, p4, p5, p6, p7, p8, p9⟩, y0, y1, y2, y3⟩ := HC0.out _ (HK2.out.step hW)
      exact ⟨p0, p1, p2, p3, p4, p5, p6, p7, p8, p9, y0, y1, y2, y3⟩
    have hlow2 := hk2.1
    have HL2 := Lib.hid hlow2
    have hs0 : w.heap.size + 1 < w2.heap.size := (hk2.2 _ (.head _)).lt
    clear hk2 hlow2
    go_cut [5, 6] (fun s5 s6 W' => GotD w2 o2 ct2 co2 cp2 l2 lt2 la2 ec n0 n1 n2 bs2 cd2 ld2 s5 s6 W')
    case first =>
      have hl0 := low_drew w2
      obtain ⟨p0, p1, p2, p3, p4, p5, p6, p7, p8, p9, y0, y1, y2, y3⟩ := HQ.out _ hl0
      have hle : Below w2.heap.size w2 (w2.alloc (.cells #[.slice none 0 0, .bool false, .int .i64 0, .int .i64 0, .int .i64 0, .slice none 0 0, .int .i64 0, .int .i64 0, .int .i64 0, .slice none 0 0] 39 (0, 0))).drew := low_adrew w2 _
      obtain ⟨e0, e1, e2, e3, e4, e5, e6, e7, e8, e9, dd0, dd1, dd2, dd3⟩ := HQ.out _ hle
      go_region_held3 (fun w' => w'.cell? ⟨w.heap.size, 0, none⟩ = some (.slice aub nb cub) ∧ w'.cell? ⟨w.heap.size, 1, none⟩ = some (.bool o) ∧ w'.cell? ⟨w.heap.size, 2, none⟩ = some (.int .i64 ct) ∧ w'.cell? ⟨w.heap.size, 3, none⟩ = some (.int .i64 co) ∧ w'.cell? ⟨w.heap.size, 4, none⟩ = some (.int .i64 cp) ∧ w'.cell? ⟨w.heap.size, 5, none⟩ = some (.slice auc cd.length cuc) ∧ w'.cell? ⟨w.heap.size, 6, none⟩ = some (.int .i64 l) ∧ w'.cell? ⟨w.heap.size, 7, none⟩ = some (.int .i64 lt) ∧ w'.cell? ⟨w.heap.size, 8, none⟩ = some (.int .i64 la) ∧ w'.cell? ⟨w.heap.size, 9, none⟩ = some (.slice aul ld.length cul) ∧ w'.cell? ⟨(w.heap.size + 1), 0, none⟩ = some (.int .i64 t) ∧ w'.cell? ⟨(w.heap.size + 1), 1, none⟩ = some (.int .i64 q) ∧ w'.cell? ⟨(w.heap.size + 1), 2, none⟩ = some (.int .i64 p) ∧ w'.cell? ⟨(w.heap.size + 1), 3, none⟩ = some (.slice ax xs.length cx)) (first | exact ⟨by with_reducible assumption, by with_reducible assumption, by with_reducible assumption, by with_reducible assumption, by with_reducible assumption, by with_reducible assumption, by with_reducible assumption, by with_reducible assumption, by with_reducible assumption, by with_reducible assumption, by with_reducible assumption, by with_reducible assumption, by with_reducible assumption, by with_reducible assumption⟩ | go_keep | exact ⟨(set10_cell (by omega) _ _ _ _ _ _ _ _ _ _).trans (by with_reducible assumption), (set10_cell (by omega) _ _ _ _ _ _ _ _ _ _).trans (by with_reducible assumption), (set10_cell (by omega) _ _ _ _ _ _ _ _ _ _).trans (by with_reducible assumption), (set10_cell (by omega) _ _ _ _ _ _ _ _ _ _).trans (by with_reducible assumption), (set10_cell (by omega) _ _ _ _ _ _ _ _ _ _).trans (by with_reducible assumption), (set10_cell (by omega) _ _ _ _ _ _ _ _ _ _).trans (by with_reducible assumption), (set10_cell (by omega) _ _ _ _ _ _ _ _ _ _).trans (by with_reducible assumption), (set10_cell (by omega) _ _ _ _ _ _ _ _ _ _).trans (by with_reducible assumption), (set10_cell (by omega) _ _ _ _ _ _ _ _ _ _).trans (by with_reducible assumption), (set10_cell (by omega) _ _ _ _ _ _ _ _ _ _).trans (by with_reducible assumption), (set10_cell (by omega) _ _ _ _ _ _ _ _ _ _).trans (by with_reducible assumption), (set10_cell (by omega) _ _ _ _ _ _ _ _ _ _).trans (by with_reducible assumption), (set10_cell (by omega) _ _ _ _ _ _ _ _ _ _).trans (by with_reducible assumption), (set10_cell (by omega) _ _ _ _ _ _ _ _ _ _).trans (by with_reducible assumption)⟩) ((first
        | (go_at_call 12; (with_reducible refine (HTO.out _).mono ?_); rintro e w3 ⟨rfl, hb3⟩; have hl3 := stepAny (by first | with_reducible exact low_drew w2 | with_reducible exact low_adrew w2 _) hb3; obtain ⟨fa0, fa1, fa2, fa3, fa4, fa5, fa6, fa7, fa8, fa9, fb0, fb1, fb2, fb3⟩ := HQ.out w3 hl3; obtain ⟨hc3, hf3⟩ := bcell hb3; (try have hz3 : w2.heap.size < w3.heap.size := (by have := hb3.size; simp at this; omega)); have hs03 : w.heap.size + 1 < w3.heap.size := (by have := hl3.size; omega); have hq3 := HQ.out _ (stepAny hl3 (low_alloc w3 (.cells #[.slice none 0 0, .bool false, .int .i64 0, .int .i64 0, .int .i64 0, .slice none 0 0, .int .i64 0, .int .i64 0, .int .i64 0, .slice none 0 0] 39 (0, 0)))); obtain ⟨ga0, ga1, ga2, ga3, ga4, ga5, ga6, ga7, ga8, ga9, gb0, gb1, gb2, gb3⟩ := hq3)
        | (go_at_call 11; (with_reducible refine (HDO.out _ (stepAny HL2.out (by first | with_reducible exact hl3 | with_reducible exact stepAny hl3 (low_alloc w3 _)))).mono ?_); rintro e w4 ⟨a, k, c, d, r, q', es2, rfl, hdw, hb4⟩; have hl4 := stepAny (by first | with_reducible exact low_refl w3 | with_reducible exact low_alloc w3 _) hb4; have hl4s := stepAny hl3 hl4; obtain ⟨ha0, ha1, ha2, ha3, ha4, ha5, ha6, ha7, ha8, ha9, hx0, hx1, hx2, hx3⟩ := HQ.out w4 hl4s; obtain ⟨hc4, hf4⟩ := bcell hb4; (try have hz4 : w2.heap.size < w4.heap.size := (by have := hb4.size; simp at this; omega)); (try have hz5 : w3.heap.size < w4.heap.size := (by have := hb4.size; simp at this; omega)); have hs04 : w.heap.size + 1 < w4.heap.size := (by have := hl4s.size; omega))))
      all_goals (go_wp2_with fail; go_meet)
      · exact GotD.new hl4s hdw
      · have hkk : Bk (w3.alloc (.cells #[.slice none 0 0, .bool false, .int .i64 0, .int .i64 0, .int .i64 0, .slice none 0 0, .int .i64 0, .int .i64 0, .int .i64 0, .slice none 0 0] 39 (0, 0))) w3.heap.size 39 (dkC (.slice none 0 0) false 0 0 0 (.slice none 0 0) 0 0 0 (.slice none 0 0)) := Bk.newAt w3 _ (dkC _ _ _ _ _ _ _ _ _ _) rfl
        exact GotD.old hl4s (hdw.less' (fun x hx => by subst hx; omega)) (by simp) hl3.size (hkk.below hb4 hkk.lt)
      · have hkk : Bk ((w2.alloc (.cells #[.slice none 0 0, .bool false, .int .i64 0, .int .i64 0, .int .i64 0, .slice none 0 0, .int .i64 0, .int .i64 0, .int .i64 0, .slice none 0 0] 39 (0, 0))).drew) w2.heap.size 39 (dkC (.slice none 0 0) false 0 0 0 (.slice none 0 0) 0 0 0 (.slice none 0 0)) := Bk.newAt w2 _ (dkC _ _ _ _ _ _ _ _ _ _) rfl
        exact GotD.old hl4s (hdw.less' (fun x hx => by subst hx; omega)) (by omega) (Nat.le_refl _) ((hkk.below hb3 hkk.lt).below hl4 (hkk.below hb3 hkk.lt).lt)
    case rest =>
      obtain ⟨b, a, k, c, d, r, q', es2, rfl, rfl, hge, hkb, hdv, hb5⟩ := hcut
      have hlow5 := stepAny HL2.out hb5
      by_cases hec : ec = 0
      · subst hec
        obtain ⟨co1, cp1, l1, cd1, hs1, hv1, hl1⟩ := Dk.give_ok HG.out
        simp only [Prod.mk.injEq] at hs1
        obtain ⟨rfl, rfl, ⟨rfl, rfl, rfl, rfl⟩, rfl, rfl, rfl, rfl⟩ := hs1
        obtain ⟨bs3, ⟨t3, an3, dd3⟩, hrun, htag, hv3⟩ := Dk.run_open 3 hv1 (by omega)
        simp only at htag
        have htag2 := htag.symm
        subst htag2
        have hcd1 := Dk.give_len (s := (bs2, (o, (ct, co, cp, cd), l, (lt2, la2, ld2)))) (c := (ct2, q, p, xs)) hz2 h300
        rw [HG.out] at hcd1
        simp only at hcd1
        have hYb : ∀ x, (fun x => x = b) x → x < wc.heap.size := fun x h => h ▸ hkb.lt
        have hR := (run_w true ct2 co2 cp2 l2 lt2 la2 hdv hYb ⟨by show bs2.length ≤ 1000; omega, by show cd2.length ≤ 1000; omega, by show ld2.length ≤ 1000; omega⟩)
        rw [hrun] at hR
        have hsz3 := Dk.run_sized 3 (s := (bs2, (true, (ct2, co2, cp2, cd2), l2, (lt2, la2, ld2)))) ⟨by show bs2.length ≤ 1000; omega, by show cd2.length ≤ 1000; omega, by show ld2.length ≤ 1000; omega⟩
        rw [hrun] at hsz3
        have HSZ3 : Hid (dd3.length ≤ 1000) := hsz3.2.2
        clear hsz3
        have HRUN := Lib.hid hR
        have HV3 := Lib.hid hv3
        clear hR hrun hv3 hv1 hl1
        have hR2 : Calls Try.prog 13 #[.agg #[.slice a n0 k, .bool true, .int .i64 ct2, .int .i64 co2, .int .i64 cp2, .slice c n1 d, .int .i64 l2, .int .i64 lt2, .int .i64 la2, .slice r n2 q']] wc fun e w' => ∃ a3 m3 k3 c3 d3 r3 s3 j3 u5 m5 v5 es3, e = .returned (.tuple #[.agg #[.slice a3 m3 k3, .bool false, .int .i64 0, .int .i64 0, .int .i64 0, .slice c3 0 d3, .int .i64 0, .int .i64 ct2, .int .i64 an3, .slice r3 s3 j3], .agg #[.int .i64 ct2, .int .i64 an3, .slice u5 m5 v5], .bool true]) ∧ Dv (fun x => x = b) w' (.slice a3 m3 k3) (.slice c3 0 d3) (.slice r3 s3 j3) es3 bs3 [] dd3 ∧ Below wc.heap.size wc w' :=
          HRUN.out.mono fun e w' h => by
            obtain ⟨ub, uc, ul, es3, u, rfl, hd3, hs3, hb3⟩ := h
            obtain ⟨a3, k3, rfl, -⟩ := id hd3.here.r
            obtain ⟨c3, d3, rfl, -⟩ := id hd3.here.c
            obtain ⟨r3, q3, rfl, -⟩ := id hd3.here.l
            obtain ⟨u5, v5, rfl, -⟩ := id hs3.here
            exact ⟨_, _, _, _, _, _, _, _, _, _, _, es3, rfl, hd3, hb3⟩
        have HRUN2 := Lib.hid hR2
        clear hR2
        obtain ⟨⟨p0, p1, p2, p3, p4, p5, p6, p7, p8, p9⟩, -⟩ := Bk.fd hkb
        go_upto_region 7 with (go_at_call 13; (with_reducible refine HRUN2.out.mono ?_); rintro e w6 ⟨a3, m3, k3, c3, d3, r3, s3, j3, u5, m5, v5, es3, rfl, hd3, hb6⟩; clear p0 p1 p2 p3 p4 p5 p6 p7 p8 p9; obtain ⟨⟨p0, p1, p2, p3, p4, p5, p6, p7, p8, p9⟩, zq0, zq1, zq2, zq3, zq4, zq5, zq6, zq7, zq8, zq9⟩ := Bk.fd (hkb.below hb6 hkb.lt); have hbl6 : b < w6.heap.size := (hkb.below hb6 hkb.lt).lt)
        have hk7 : Bk (((((((((((w6.setCell ⟨b, 0, none⟩ (.slice a3 m3 k3)).setCell ⟨b, 1, none⟩ (.bool false)).setCell ⟨b, 2, none⟩ (.int .i64 0)).setCell ⟨b, 3, none⟩ (.int .i64 0)).setCell ⟨b, 4, none⟩ (.int .i64 0)).setCell ⟨b, 5, none⟩ (.slice c3 0 d3)).setCell ⟨b, 6, none⟩ (.int .i64 0)).setCell ⟨b, 7, none⟩ (.int .i64 ct2)).setCell ⟨b, 8, none⟩ (.int .i64 an3)).setCell ⟨b, 9, none⟩ (.slice r3 s3 j3)).alloc (.cells #[.int .i64 ct2, .int .i64 an3, .slice u5 m5 v5] 35 (0, 0))) b 39 (dkC (.slice a3 m3 k3) false 0 0 0 (.slice c3 0 d3) 0 ct2 an3 (.slice r3 s3 j3)) := ((hkb.below hb6 hkb.lt).set10 (.slice a3 m3 k3) (.bool false) (.int .i64 0) (.int .i64 0) (.int .i64 0) (.slice c3 0 d3) (.int .i64 0) (.int .i64 ct2) (.int .i64 an3) (.slice r3 s3 j3)).alloc _
        have hsz7 : (((((((((((w6.setCell ⟨b, 0, none⟩ (.slice a3 m3 k3)).setCell ⟨b, 1, none⟩ (.bool false)).setCell ⟨b, 2, none⟩ (.int .i64 0)).setCell ⟨b, 3, none⟩ (.int .i64 0)).setCell ⟨b, 4, none⟩ (.int .i64 0)).setCell ⟨b, 5, none⟩ (.slice c3 0 d3)).setCell ⟨b, 6, none⟩ (.int .i64 0)).setCell ⟨b, 7, none⟩ (.int .i64 ct2)).setCell ⟨b, 8, none⟩ (.int .i64 an3)).setCell ⟨b, 9, none⟩ (.slice r3 s3 j3))).heap.size = w6.heap.size := set10_size (.slice a3 m3 k3) (.bool false) (.int .i64 0) (.int .i64 0) (.int .i64 0) (.slice c3 0 d3) (.int .i64 0) (.int .i64 ct2) (.int .i64 an3) (.slice r3 s3 j3)
        have ha7 : Bk (((((((((((w6.setCell ⟨b, 0, none⟩ (.slice a3 m3 k3)).setCell ⟨b, 1, none⟩ (.bool false)).setCell ⟨b, 2, none⟩ (.int .i64 0)).setCell ⟨b, 3, none⟩ (.int .i64 0)).setCell ⟨b, 4, none⟩ (.int .i64 0)).setCell ⟨b, 5, none⟩ (.slice c3 0 d3)).setCell ⟨b, 6, none⟩ (.int .i64 0)).setCell ⟨b, 7, none⟩ (.int .i64 ct2)).setCell ⟨b, 8, none⟩ (.int .i64 an3)).setCell ⟨b, 9, none⟩ (.slice r3 s3 j3)).alloc (.cells #[.int .i64 ct2, .int .i64 an3, .slice u5 m5 v5] 35 (0, 0))) w6.heap.size 35 [.int .i64 ct2, .int .i64 an3, .slice u5 m5 v5] := Bk.newAt _ _ [.int .i64 ct2, .int .i64 an3, .slice u5 m5 v5] hsz7.symm
        have hl6 := set10 (b := b) (stepAny hlow5 hb6) (by omega) (.slice a3 m3 k3) (.bool false) (.int .i64 0) (.int .i64 0) (.int .i64 0) (.slice c3 0 d3) (.int .i64 0) (.int .i64 ct2) (.int .i64 an3) (.slice r3 s3 j3)
        have hl7 : Below w.heap.size w (((((((((((w6.setCell ⟨b, 0, none⟩ (.slice a3 m3 k3)).setCell ⟨b, 1, none⟩ (.bool false)).setCell ⟨b, 2, none⟩ (.int .i64 0)).setCell ⟨b, 3, none⟩ (.int .i64 0)).setCell ⟨b, 4, none⟩ (.int .i64 0)).setCell ⟨b, 5, none⟩ (.slice c3 0 d3)).setCell ⟨b, 6, none⟩ (.int .i64 0)).setCell ⟨b, 7, none⟩ (.int .i64 ct2)).setCell ⟨b, 8, none⟩ (.int .i64 an3)).setCell ⟨b, 9, none⟩ (.slice r3 s3 j3)).alloc (.cells #[.int .i64 ct2, .int .i64 an3, .slice u5 m5 v5] 35 (0, 0))) := hl6.alloc hl6.size _
        have hd7 : Dv (fun x => x = b) (((((((((((w6.setCell ⟨b, 0, none⟩ (.slice a3 m3 k3)).setCell ⟨b, 1, none⟩ (.bool false)).setCell ⟨b, 2, none⟩ (.int .i64 0)).setCell ⟨b, 3, none⟩ (.int .i64 0)).setCell ⟨b, 4, none⟩ (.int .i64 0)).setCell ⟨b, 5, none⟩ (.slice c3 0 d3)).setCell ⟨b, 6, none⟩ (.int .i64 0)).setCell ⟨b, 7, none⟩ (.int .i64 ct2)).setCell ⟨b, 8, none⟩ (.int .i64 an3)).setCell ⟨b, 9, none⟩ (.slice r3 s3 j3)).alloc (.cells #[.int .i64 ct2, .int .i64 an3, .slice u5 m5 v5] 35 (0, 0))) (.slice a3 m3 k3) (.slice c3 0 d3) (.slice r3 s3 j3) es3 bs3 [] dd3 := (hd3.set10 (b := b) rfl (.slice a3 m3 k3) (.bool false) (.int .i64 0) (.int .i64 0) (.int .i64 0) (.slice c3 0 d3) (.int .i64 0) (.int .i64 ct2) (.int .i64 an3) (.slice r3 s3 j3)).below (low_alloc _ _)
        have hy7 : (((((((((((w6.setCell ⟨b, 0, none⟩ (.slice a3 m3 k3)).setCell ⟨b, 1, none⟩ (.bool false)).setCell ⟨b, 2, none⟩ (.int .i64 0)).setCell ⟨b, 3, none⟩ (.int .i64 0)).setCell ⟨b, 4, none⟩ (.int .i64 0)).setCell ⟨b, 5, none⟩ (.slice c3 0 d3)).setCell ⟨b, 6, none⟩ (.int .i64 0)).setCell ⟨b, 7, none⟩ (.int .i64 ct2)).setCell ⟨b, 8, none⟩ (.int .i64 an3)).setCell ⟨b, 9, none⟩ (.slice r3 s3 j3)).alloc (.cells #[.int .i64 ct2, .int .i64 an3, .slice u5 m5 v5] 35 (0, 0))).cell? ⟨w.heap.size + 1, 0, none⟩ = some (.int .i64 ct2) := by
          have hkc : Bk wc (w.heap.size + 1) 25 [.int .i64 ct2, .int .i64 q, .int .i64 p, .slice ax xs.length cx] := ((HK2.out.2 _ (.head _)).below hb5 (HK2.out.2 _ (.head _)).lt)
          have h2 := (hkc.below hb6 hkc.lt).keep (set10_heap (W := w6) (b := b) (by omega) (.slice a3 m3 k3) (.bool false) (.int .i64 0) (.int .i64 0) (.int .i64 0) (.slice c3 0 d3) (.int .i64 0) (.int .i64 ct2) (.int .i64 an3) (.slice r3 s3 j3))
          exact (h2.alloc _).cell 0
        clear p0 p1 p2 p3 p4 p5 p6 p7 p8 p9 hkb hdv hd3 hl6 hb6 HRUN HRUN2
        generalize (((((((((((w6.setCell ⟨b, 0, none⟩ (.slice a3 m3 k3)).setCell ⟨b, 1, none⟩ (.bool false)).setCell ⟨b, 2, none⟩ (.int .i64 0)).setCell ⟨b, 3, none⟩ (.int .i64 0)).setCell ⟨b, 4, none⟩ (.int .i64 0)).setCell ⟨b, 5, none⟩ (.slice c3 0 d3)).setCell ⟨b, 6, none⟩ (.int .i64 0)).setCell ⟨b, 7, none⟩ (.int .i64 ct2)).setCell ⟨b, 8, none⟩ (.int .i64 an3)).setCell ⟨b, 9, none⟩ (.slice r3 s3 j3)).alloc (.cells #[.int .i64 ct2, .int .i64 an3, .slice u5 m5 v5] 35 (0, 0))) = W7 at *
        obtain ⟨b7, hb7⟩ : ∃ x, x = w6.heap.size := ⟨_, rfl⟩
        rw [← hb7] at ha7 ⊢
        clear hb7
        have hne7 : (ct2 != ct2) = false := by simp
        obtain ⟨⟨p0, p1, p2, p3, p4, p5, p6, p7, p8, p9⟩, -⟩ := Bk.fd hk7
        have hx7 := ha7.cell 0
        simp only [List.getElem?_cons_zero] at hx7
        have hR3 := run_w false 0 0 0 0 ct2 an3 hd7 (fun x h => h ▸ hk7.lt) ⟨by show bs3.length ≤ 1000; have := (Dk.valid_iff.1 HV3.out).1; omega, by show ([] : List UInt8).length ≤ 1000; simp, HSZ3.out⟩
        rw [show (bs3, (false, ((0 : Int), (0 : Int), (0 : Int), ([] : List UInt8)), (0 : Int), (ct2, an3, dd3))) = ((bs3, (false, Dk.zcm, 0, (ct2, an3, dd3))) : Dk.St) from rfl, Dk.run_shut HV3.out 3] at hR3
        have HR3 := Lib.hid hR3
        clear hR3
        go_wp2_with (go_at_call 13; (with_reducible refine HR3.out.mono ?_); rintro e w8 ⟨ub8, uc8, ul8, es8, u8, rfl, hd8, hs8, hb8⟩; obtain ⟨f1, f2, rfl, -⟩ := id hd8.here.r; obtain ⟨f3, f4, rfl, -⟩ := id hd8.here.c; obtain ⟨f5, f6, rfl, -⟩ := id hd8.here.l; obtain ⟨f7, f8, rfl, -⟩ := id hs8.here)
        go_ret
        exact ⟨rfl, ((stepAny hl7 hb8).alloc (stepAny hl7 hb8).size _).alloc (by have := (stepAny hl7 hb8).size; simp; omega) _⟩
      · have h := Dk.give_bad (s := (bs, (o, (ct, co, cp, cd), l, (lt, la, ld)))) (c := (t, q, p, xs)) (by rw [HG.out]; exact hec)
        rw [HG.out] at h
        have hbs : bs2 = [] := congrArg Prod.fst h
        have hz : ((n0 : Int) == 0) = true := by rw [HN0.out, hbs]; rfl
        have hne : (ec != 0) = true := by simpa using hec
        obtain ⟨⟨p0, p1, p2, p3, p4, p5, p6, p7, p8, p9⟩, -⟩ := Bk.fd hkb
        clear h hbs hec hdv
        go_wp2_with fail
        go_ret
        exact ⟨rfl, hlow5⟩
end Go.Proofs.Yteeoonoccklhmaa
