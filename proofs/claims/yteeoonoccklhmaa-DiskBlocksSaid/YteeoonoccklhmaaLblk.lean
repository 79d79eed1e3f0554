/-
  The walk of DiskBlocks (printed by gen/mk11blk.py).
-/
import Derived.Test.YteeoonoccklhmaaLans
import Derived.Test.YteeoonoccklhmaaLold
import Derived.Test.YteeoonoccklhmaaCon
import Derived.Test.YteeoonoccklhmaaPblk
import Derived.Test.YteeoonoccklhmaaPart
namespace Go.Proofs.Yteeoonoccklhmaa
open Go.RowKit

theorem Try.sizeST : (Try.prog.info? 39).map (·.size) = some 10 := by kernel_rfl
theorem Try.sizeAN : (Try.prog.info? 35).map (·.size) = some 3 := by kernel_rfl
theorem run_put {W w8 w9 : World} {b : Nat} {T A : TypeId} {L L2 z : List Value} (hk8 : Bk w8 b T L) (hg8 : (W.alloc (.cells z.toArray A (0, 0))).grownBy w8 (some b)) (hb : b < W.heap.size) (hk9 : Bk w9 W.heap.size A L2) (hg9 : w8.grownBy w9 (some W.heap.size)) :
    Bk w9 b T L ∧ Bk w9 W.heap.size A L2 ∧ W.heap.size < w9.heap.size ∧ (∀ j, j < W.heap.size → j ≠ b → w9.heap[j]? = W.heap[j]?) ∧ ∀ w0 : World, Below w0.heap.size w0 W → w0.heap.size ≤ b → Below w0.heap.size w0 w9 := by
  have h8 := hg8.size
  have h9 := hg9.size
  have hs : (W.alloc (.cells z.toArray A (0, 0))).heap.size = W.heap.size + 1 := by simp
  refine ⟨hk8.grown hg9 (by simp; omega), hk9, by omega, fun j hj hne => ?_, fun w0 h0 h1 => ?_⟩
  · rw [hg9.block j (by omega) (by simp; omega), hg8.block j (by omega) (by simpa using hne), Below.heap_alloc _ _ _ hj]
  · have h := h0.size
    exact ((h0.alloc h _).trans (below_of_grown hg8 h1 (by omega))).trans (below_of_grown hg9 h (by omega))

set_option maxRecDepth 100000 in
set_option maxHeartbeats 8000000 in
theorem lblk_w {w : World} {v0 v1 v2 : Value} (h0 : IsDisk w v0) (h1 : IsCmd w v1) (h2 : IsI64 w v2) :
    Calls Try.prog 8 #[v0, v1, v2] w fun e w' => e = .returned (.bool true) ∧ Below w.heap.size w w' := by
  obtain ⟨o, ct, co, cp, l, lt, la, ub, uc, ul, bs, cd, ld, rfl, hdr, -⟩ := h0
  obtain ⟨t, q, p, ux, xs, rfl, hx, ⟨ht1, ht2⟩, -⟩ := h1
  obtain ⟨oth, rfl, hot0, hot1⟩ := h2
  obtain ⟨es, hde⟩ := hdr.de
  obtain ⟨aub, cub, hub, -⟩ := id hde.r
  obtain ⟨auc, cuc, huc, -⟩ := id hde.c
  obtain ⟨aul, cul, hul, -⟩ := id hde.l
  obtain ⟨ax, cx, hux, -⟩ := id hx
  obtain ⟨nb, hnb⟩ : ∃ n, n = es.length := ⟨_, rfl⟩
  rw [← hnb] at hub
  subst hub huc hul hux
  have HNB := Lib.hid hnb
  have HDE := Lib.hid hde
  have HX := Lib.hid hx
  have hk0 : Keeps w [(w.heap.size + 1, 25, [.int .i64 t, .int .i64 q, .int .i64 p, .slice ax xs.length cx]), (w.heap.size, 31, [.slice aub nb cub, .bool o, .int .i64 ct, .int .i64 co, .int .i64 cp, .slice auc cd.length cuc, .int .i64 l, .int .i64 lt, .int .i64 la, .slice aul ld.length cul])] ((w.alloc (.cells #[.slice aub nb cub, .bool o, .int .i64 ct, .int .i64 co, .int .i64 cp, .slice auc cd.length cuc, .int .i64 l, .int .i64 lt, .int .i64 la, .slice aul ld.length cul] 31 (0, 0))).alloc (.cells #[.int .i64 t, .int .i64 q, .int .i64 p, .slice ax xs.length cx] 25 (0, 0))) := ((Keeps.start w).add 31 [.slice aub nb cub, .bool o, .int .i64 ct, .int .i64 co, .int .i64 cp, .slice auc cd.length cuc, .int .i64 l, .int .i64 lt, .int .i64 la, .slice aul ld.length cul] rfl).add 25 [.int .i64 t, .int .i64 q, .int .i64 p, .slice ax xs.length cx] (by simp)
  have HC0 : Hid (∀ W, Keeps w [(w.heap.size + 1, 25, [.int .i64 t, .int .i64 q, .int .i64 p, .slice ax xs.length cx]), (w.heap.size, 31, [.slice aub nb cub, .bool o, .int .i64 ct, .int .i64 co, .int .i64 cp, .slice auc cd.length cuc, .int .i64 l, .int .i64 lt, .int .i64 la, .slice aul ld.length cul])] W → (W.cell? ⟨w.heap.size, 0, none⟩ = some (.slice aub nb cub) ∧ W.cell? ⟨w.heap.size, 1, none⟩ = some (.bool o) ∧ W.cell? ⟨w.heap.size, 2, none⟩ = some (.int .i64 ct) ∧ W.cell? ⟨w.heap.size, 3, none⟩ = some (.int .i64 co) ∧ W.cell? ⟨w.heap.size, 4, none⟩ = some (.int .i64 cp) ∧ W.cell? ⟨w.heap.size, 5, none⟩ = some (.slice auc cd.length cuc) ∧ W.cell? ⟨w.heap.size, 6, none⟩ = some (.int .i64 l) ∧ W.cell? ⟨w.heap.size, 7, none⟩ = some (.int .i64 lt) ∧ W.cell? ⟨w.heap.size, 8, none⟩ = some (.int .i64 la) ∧ W.cell? ⟨w.heap.size, 9, none⟩ = some (.slice aul ld.length cul)) ∧ (W.cell? ⟨(w.heap.size + 1), 0, none⟩ = some (.int .i64 t) ∧ W.cell? ⟨(w.heap.size + 1), 1, none⟩ = some (.int .i64 q) ∧ W.cell? ⟨(w.heap.size + 1), 2, none⟩ = some (.int .i64 p) ∧ W.cell? ⟨(w.heap.size + 1), 3, none⟩ = some (.slice ax xs.length cx))) := fun W hW => by
    have e1 := hW.2 _ (.head _)
    have e0 := hW.2 _ (.tail _ (.head _))
    exact ⟨⟨e0.cell 0, e0.cell 1, e0.cell 2, e0.cell 3, e0.cell 4, e0.cell 5, e0.cell 6, e0.cell 7, e0.cell 8, e0.cell 9⟩, e1.cell 0, e1.cell 1, e1.cell 2, e1.cell 3⟩
  have HF : Hid (∀ W, Below w.heap.size w W → Calls Try.prog 10 #[.agg #[.slice aub nb cub, .bool o, .int .i64 ct, .int .i64 co, .int .i64 cp, .slice auc cd.length cuc, .int .i64 l, .int .i64 lt, .int .i64 la, .slice aul ld.length cul], .agg #[.int .i64 t, .int .i64 q, .int .i64 p, .slice ax xs.length cx]] W fun e w' => e = .returned (.bool (Dk.few (bs, (o, (ct, co, cp, cd), l, (lt, la, ld))) && decide (xs.length ≤ 300))) ∧ Below W.heap.size W w') := fun W hW => lfew_w o ct co cp l lt la t q p (hdr.below hW (Nat.le_refl _)) (hx.below hW (Nat.le_refl _))
  have HK0 := Lib.hid hk0
  clear hk0 hdr hde hx hnb
  cases hfw : (Dk.few (bs, (o, (ct, co, cp, cd), l, (lt, la, ld))) && decide (xs.length ≤ 300)) with
  | false =>
    rw [hfw] at HF
    clear hfw
    go_enter Try.func8, Try.ntmps8
    go_wp2_with (first
      | (go_at_call 10; (with_reducible refine (HF.out _ hk1.lo).mono ?_); rintro e w2 ⟨rfl, hb2⟩; have hk2 := hk1.step hb2; have tok := True.intro)
      | (go_at_call 9; have _t := tok; refine (awake_w w2).mono ?_; rintro e w3 ⟨rfl, hb3⟩)
      | (go_at_call 9; refine (awake_w _).mono ?_; rintro e w1 ⟨rfl, hb1⟩; have hk1 := HK0.out.step hb1; obtain ⟨⟨p0, p1, p2, p3, p4, p5, p6, p7, p8, p9⟩, y0, y1, y2, y3⟩ := HC0.out _ hk1))
    go_ret
    exact ⟨rfl, (hk2.step hb3).1⟩
  | true =>
    rw [hfw] at HF
    rw [Bool.and_eq_true, decide_eq_true_eq] at hfw
    obtain ⟨hf1, h300⟩ := hfw
    obtain ⟨hz1, hz2, hz3⟩ := few_sized hf1
    clear hf1
    by_cases ho : o = true
    · have HO := Lib.hid ho
      clear ho
      go_enter Try.func8, Try.ntmps8
      go_wp2_with (first
        | (go_at_call 10; (with_reducible refine (HF.out _ hk1.lo).mono ?_); rintro e w2 ⟨rfl, hb2⟩; have hk2 := hk1.step hb2; obtain ⟨⟨-, q1, -⟩, z0, -⟩ := HC0.out _ hk2; have tok := True.intro; have ho := HO.out)
        | (go_at_call 9; have _t := tok; refine (awake_w w2).mono ?_; rintro e w3 ⟨rfl, hb3⟩)
        | (go_at_call 9; refine (awake_w _).mono ?_; rintro e w1 ⟨rfl, hb1⟩; have hk1 := HK0.out.step hb1; obtain ⟨⟨p0, p1, p2, p3, p4, p5, p6, p7, p8, p9⟩, y0, y1, y2, y3⟩ := HC0.out _ hk1))
      go_ret
      exact ⟨rfl, (hk2.step hb3).1⟩
    have HO : Hid (o = false) := by cases o <;> simp_all [Hid]
    clear ho
    by_cases ht40 : (1099511627776 : Int) < t
    · skip
      go_enter Try.func8, Try.ntmps8
      go_wp2_with (first
        | (go_at_call 10; (with_reducible refine (HF.out _ hk1.lo).mono ?_); rintro e w2 ⟨rfl, hb2⟩; have hk2 := hk1.step hb2; obtain ⟨⟨-, q1, -⟩, z0, -⟩ := HC0.out _ hk2; have tok := True.intro; have ho := HO.out)
        | (go_at_call 9; have _t := tok; refine (awake_w w2).mono ?_; rintro e w3 ⟨rfl, hb3⟩)
        | (go_at_call 9; refine (awake_w _).mono ?_; rintro e w1 ⟨rfl, hb1⟩; have hk1 := HK0.out.step hb1; obtain ⟨⟨p0, p1, p2, p3, p4, p5, p6, p7, p8, p9⟩, y0, y1, y2, y3⟩ := HC0.out _ hk1))
      go_ret
      exact ⟨rfl, (hk2.step hb3).1⟩
    obtain ⟨⟨bs2, o2, ⟨ct2, co2, cp2, cd2⟩, l2, lt2, la2, ld2⟩, ec, hg⟩ : ∃ (s : Dk.St) (e : Int), Dk.give (bs, (o, (ct, co, cp, cd), l, (lt, la, ld))) (t, 1, p, xs) = (s, e) := ⟨_, _, rfl⟩
    have HG := Lib.hid hg
    obtain ⟨n0, hn0⟩ : ∃ n, n = bs2.length := ⟨_, rfl⟩
    obtain ⟨n1, hn1⟩ : ∃ n, n = cd2.length := ⟨_, rfl⟩
    obtain ⟨n2, hn2⟩ : ∃ n, n = ld2.length := ⟨_, rfl⟩
    have HDO : Hid (∀ W, Below w.heap.size w W → Calls Try.prog 11 #[.agg #[.slice aub nb cub, .bool o, .int .i64 ct, .int .i64 co, .int .i64 cp, .slice auc cd.length cuc, .int .i64 l, .int .i64 lt, .int .i64 la, .slice aul ld.length cul], .agg #[.int .i64 t, .int .i64 1, .int .i64 p, .slice ax xs.length cx]] W fun e w' => ∃ a k c d r q' es2, e = .returned (.tuple #[.agg #[.slice a n0 k, .bool o2, .int .i64 ct2, .int .i64 co2, .int .i64 cp2, .slice c n1 d, .int .i64 l2, .int .i64 lt2, .int .i64 la2, .slice r n2 q'], .int .i64 ec]) ∧ Dw W.heap.size (fun x => w.heap.size ≤ x) w' (.slice a n0 k) (.slice c n1 d) (.slice r n2 q') es2 bs2 cd2 ld2 ∧ Below W.heap.size W w') := fun W hW =>
      do_f (X := fun x => w.heap.size ≤ x) o ct co cp l lt la t 1 p (HDE.out.below hW (Nat.le_refl _)) ((Av.start (X := fun x => w.heap.size ≤ x) (W := w) (P := fun W => ∀ i (h : i < es.length) (h' : i < bs.length), Sl eb W (et es[i]) bs[i]) (fun W' hk i h h' => (HDE.out.keep hk).e i h h') (fun x h => h)).below hW) (HX.out.below hW (Nat.le_refl _)) (by have := HDE.out.n; omega) (by omega) (by omega) (by omega) HG.out hn0.symm hn1.symm hn2.symm
    have HTO := Lib.hid (fun W => to_w o ct co cp l lt la aub auc aul nb cub cd.length cuc ld.length cul W)
    have HN0 := Lib.hid hn0
    have HN1 := Lib.hid hn1
    have HN2 := Lib.hid hn2
    clear hg hn0 hn1 hn2
    go_enter Try.func8, Try.ntmps8
    go_upto_region 4 with (first
      | (go_at_call 10; (with_reducible refine (HF.out _ hk1.lo).mono ?_); rintro e w2 ⟨rfl, hb2⟩; have hk2 := hk1.step hb2; obtain ⟨⟨-, q1, -⟩, z0, z1, -⟩ := HC0.out _ hk2; have zf := (hk2.2 _ (.head _)).frozen 1; have ho := HO.out)
      | (go_at_call 9; refine (awake_w _).mono ?_; rintro e w1 ⟨rfl, hb1⟩; have hk1 := HK0.out.step hb1; obtain ⟨⟨p0, p1, p2, p3, p4, p5, p6, p7, p8, p9⟩, y0, y1, y2, y3⟩ := HC0.out _ hk1))
    have hkx : Keeps w [(w.heap.size + 1, 25, [.int .i64 t, .int .i64 1, .int .i64 p, .slice ax xs.length cx]), (w.heap.size, 31, [.slice aub nb cub, .bool o, .int .i64 ct, .int .i64 co, .int .i64 cp, .slice auc cd.length cuc, .int .i64 l, .int .i64 lt, .int .i64 la, .slice aul ld.length cul])] (w2.setCell ⟨w.heap.size + 1, 1, none⟩ (.int .i64 1)) :=
      ((hk2.less (L' := [(w.heap.size, 31, [.slice aub nb cub, .bool o, .int .i64 ct, .int .i64 co, .int .i64 cp, .slice auc cd.length cuc, .int .i64 l, .int .i64 lt, .int .i64 la, .slice aul ld.length cul])]) (fun e he => .tail _ he)).set (p := ⟨w.heap.size + 1, 1, none⟩) (by simp) (fun e he => by
        simp only [List.mem_cons, List.not_mem_nil, or_false] at he
        subst he
        simp) _).more ((hk2.2 _ (.head _)).set 1 (.int .i64 1))
    clear p0 p1 p2 p3 p4 p5 p6 p7 p8 p9 y0 y1 y2 y3 hb1 hk1 hb2 z0 z1 zf q1 ho hk2
    generalize w2.setCell ⟨w.heap.size + 1, 1, none⟩ (.int .i64 1) = w9 at *
    clear w2
    rename World => w2
    have hk2 : Keeps w [(w.heap.size + 1, 25, [.int .i64 t, .int .i64 1, .int .i64 p, .slice ax xs.length cx]), (w.heap.size, 31, [.slice aub nb cub, .bool o, .int .i64 ct, .int .i64 co, .int .i64 cp, .slice auc cd.length cuc, .int .i64 l, .int .i64 lt, .int .i64 la, .slice aul ld.length cul])] w2 := hkx
    have HC1 : Hid (∀ W, Keeps w [(w.heap.size + 1, 25, [.int .i64 t, .int .i64 1, .int .i64 p, .slice ax xs.length cx]), (w.heap.size, 31, [.slice aub nb cub, .bool o, .int .i64 ct, .int .i64 co, .int .i64 cp, .slice auc cd.length cuc, .int .i64 l, .int .i64 lt, .int .i64 la, .slice aul ld.length cul])] W → (W.cell? ⟨w.heap.size, 0, none⟩ = some (.slice aub nb cub) ∧ W.cell? ⟨w.heap.size, 1, none⟩ = some (.bool o) ∧ W.cell? ⟨w.heap.size, 2, none⟩ = some (.int .i64 ct) ∧ W.cell? ⟨w.heap.size, 3, none⟩ = some (.int .i64 co) ∧ W.cell? ⟨w.heap.size, 4, none⟩ = some (.int .i64 cp) ∧ W.cell? ⟨w.heap.size, 5, none⟩ = some (.slice auc cd.length cuc) ∧ W.cell? ⟨w.heap.size, 6, none⟩ = some (.int .i64 l) ∧ W.cell? ⟨w.heap.size, 7, none⟩ = some (.int .i64 lt) ∧ W.cell? ⟨w.heap.size, 8, none⟩ = some (.int .i64 la) ∧ W.cell? ⟨w.heap.size, 9, none⟩ = some (.slice aul ld.length cul)) ∧ (W.cell? ⟨(w.heap.size + 1), 0, none⟩ = some (.int .i64 t) ∧ W.cell? ⟨(w.heap.size + 1), 1, none⟩ = some (.int .i64 1) ∧ W.cell? ⟨(w.heap.size + 1), 2, none⟩ = some (.int .i64 p) ∧ W.cell? ⟨(w.heap.size + 1), 3, none⟩ = some (.slice ax xs.length cx))) := fun W hW => by
      have e1 := hW.2 _ (.head _)
      have e0 := hW.2 _ (.tail _ (.head _))
      exact ⟨⟨e0.cell 0, e0.cell 1, e0.cell 2, e0.cell 3, e0.cell 4, e0.cell 5, e0.cell 6, e0.cell 7, e0.cell 8, e0.cell 9⟩, e1.cell 0, e1.cell 1, e1.cell 2, e1.cell 3⟩
    clear hkx HC0
    have HK2 := Lib.hid hk2
    have HQ : Hid (∀ W, Below w2.heap.size w2 W → W.cell? ⟨w.heap.size, 0, none⟩ = some (.slice aub nb cub) ∧ W.cell? ⟨w.heap.size, 1, none⟩ = some (.bool o) ∧ W.cell? ⟨w.heap.size, 2, none⟩ = some (.int .i64 ct) ∧ W.cell? ⟨w.heap.size, 3, none⟩ = some (.int .i64 co) ∧ W.cell? ⟨w.heap.size, 4, none⟩ = some (.int .i64 cp) ∧ W.cell? ⟨w.heap.size, 5, none⟩ = some (.slice auc cd.length cuc) ∧ W.cell? ⟨w.heap.size, 6, none⟩ = some (.int .i64 l) ∧ W.cell? ⟨w.heap.size, 7, none⟩ = some (.int .i64 lt) ∧ W.cell? ⟨w.heap.size, 8, none⟩ = some (.int .i64 la) ∧ W.cell? ⟨w.heap.size, 9, none⟩ = some (.slice aul ld.length cul) ∧ W.cell? ⟨(w.heap.size + 1), 0, none⟩ = some (.int .i64 t) ∧ W.cell? ⟨(w.heap.size + 1), 1, none⟩ = some (.int .i64 1) ∧ W.cell? ⟨(w.heap.size + 1), 2, none⟩ = some (.int .i64 p) ∧ W.cell? ⟨(w.heap.size + 1), 3, none⟩ = some (.slice ax xs.length cx)) := fun W hW => by
      obtain ⟨⟨p0, p1, p2, p3, p4, p5, p6, p7, p8, p9⟩, y0, y1, y2, y3⟩ := HC1.out _ (HK2.out.step hW)
      exact ⟨p0, p1, p2, p3, p4, p5, p6, p7, p8, p9, y0, y1, y2, y3⟩
    have hlow2 := hk2.1
    have HL2 := Lib.hid hlow2
    have hs0 : w.heap.size + 1 < w2.heap.size := (hk2.2 _ (.head _)).lt
    clear hk2 hlow2
    go_cut [7, 8] (fun s5 s6 W' => GotD w2 o2 ct2 co2 cp2 l2 lt2 la2 ec n0 n1 n2 bs2 cd2 ld2 s5 s6 W')
    case first =>
      have hl0 := low_drew w2
      obtain ⟨p0, p1, p2, p3, p4, p5, p6, p7, p8, p9, y0, y1, y2, y3⟩ := HQ.out _ hl0
      have hle : Below w2.heap.size w2 (w2.alloc (.cells #[.slice none 0 0, .bool false, .int .i64 0, .int .i64 0, .int .i64 0, .slice none 0 0, .int .i64 0, .int .i64 0, .int .i64 0, .slice none 0 0] 39 (0, 0))).drew := low_adrew w2 _
      obtain ⟨e0, e1, e2, e3, e4, e5, e6, e7, e8, e9, dd0, dd1, dd2, dd3⟩ := HQ.out _ hle
      go_region_held3 (fun w' => w'.cell? ⟨w.heap.size, 0, none⟩ = some (.slice aub nb cub) ∧ w'.cell? ⟨w.heap.size, 1, none⟩ = some (.bool o) ∧ w'.cell? ⟨w.heap.size, 2, none⟩ = some (.int .i64 ct) ∧ w'.cell? ⟨w.heap.size, 3, none⟩ = some (.int .i64 co) ∧ w'.cell? ⟨w.heap.size, 4, none⟩ = some (.int .i64 cp) ∧ w'.cell? ⟨w.heap.size, 5, none⟩ = some (.slice auc cd.length cuc) ∧ w'.cell? ⟨w.heap.size, 6, none⟩ = some (.int .i64 l) ∧ w'.cell? ⟨w.heap.size, 7, none⟩ = some (.int .i64 lt) ∧ w'.cell? ⟨w.heap.size, 8, none⟩ = some (.int .i64 la) ∧ w'.cell? ⟨w.heap.size, 9, none⟩ = some (.slice aul ld.length cul) ∧ w'.cell? ⟨(w.heap.size + 1), 0, none⟩ = some (.int .i64 t) ∧ w'.cell? ⟨(w.heap.size + 1), 1, none⟩ = some (.int .i64 1) ∧ w'.cell? ⟨(w.heap.size + 1), 2, none⟩ = some (.int .i64 p) ∧ w'.cell? ⟨(w.heap.size + 1), 3, none⟩ = some (.slice ax xs.length cx)) (first | exact ⟨by with_reducible assumption, by with_reducible assumption, by with_reducible assumption, by with_reducible assumption, by with_reducible assumption, by with_reducible assumption, by with_reducible assumption, by with_reducible assumption, by with_reducible assumption, by with_reducible assumption, by with_reducible assumption, by with_reducible assumption, by with_reducible assumption, by with_reducible assumption⟩ | go_keep | exact ⟨(set10_cell (by omega) _ _ _ _ _ _ _ _ _ _).trans (by with_reducible assumption), (set10_cell (by omega) _ _ _ _ _ _ _ _ _ _).trans (by with_reducible assumption), (set10_cell (by omega) _ _ _ _ _ _ _ _ _ _).trans (by with_reducible assumption), (set10_cell (by omega) _ _ _ _ _ _ _ _ _ _).trans (by with_reducible assumption), (set10_cell (by omega) _ _ _ _ _ _ _ _ _ _).trans (by with_reducible assumption), (set10_cell (by omega) _ _ _ _ _ _ _ _ _ _).trans (by with_reducible assumption), (set10_cell (by omega) _ _ _ _ _ _ _ _ _ _).trans (by with_reducible assumption), (set10_cell (by omega) _ _ _ _ _ _ _ _ _ _).trans (by with_reducible assumption), (set10_cell (by omega) _ _ _ _ _ _ _ _ _ _).trans (by with_reducible assumption), (set10_cell (by omega) _ _ _ _ _ _ _ _ _ _).trans (by with_reducible assumption), (set10_cell (by omega) _ _ _ _ _ _ _ _ _ _).trans (by with_reducible assumption), (set10_cell (by omega) _ _ _ _ _ _ _ _ _ _).trans (by with_reducible assumption), (set10_cell (by omega) _ _ _ _ _ _ _ _ _ _).trans (by with_reducible assumption), (set10_cell (by omega) _ _ _ _ _ _ _ _ _ _).trans (by with_reducible assumption)⟩) ((first
        | (go_at_call 12; (with_reducible refine (HTO.out _).mono ?_); rintro e w3 ⟨rfl, hb3⟩; have hl3 := stepAny (by first | with_reducible exact low_drew w2 | with_reducible exact low_adrew w2 _) hb3; obtain ⟨fa0, fa1, fa2, fa3, fa4, fa5, fa6, fa7, fa8, fa9, fb0, fb1, fb2, fb3⟩ := HQ.out w3 hl3; obtain ⟨hc3, hf3⟩ := bcell hb3; (try have hz3 : w2.heap.size < w3.heap.size := (by have := hb3.size; simp at this; omega)); have hs03 : w.heap.size + 1 < w3.heap.size := (by have := hl3.size; omega); have hq3 := HQ.out _ (stepAny hl3 (low_alloc w3 (.cells #[.slice none 0 0, .bool false, .int .i64 0, .int .i64 0, .int .i64 0, .slice none 0 0, .int .i64 0, .int .i64 0, .int .i64 0, .slice none 0 0] 39 (0, 0)))); obtain ⟨ga0, ga1, ga2, ga3, ga4, ga5, ga6, ga7, ga8, ga9, gb0, gb1, gb2, gb3⟩ := hq3)
        | (go_at_call 11; (with_reducible refine (HDO.out _ (stepAny HL2.out (by first | with_reducible exact hl3 | with_reducible exact stepAny hl3 (low_alloc w3 _)))).mono ?_); rintro e w4 ⟨a, k, c, d, r, q', es2, rfl, hdw, hb4⟩; have hl4 := stepAny (by first | with_reducible exact low_refl w3 | with_reducible exact low_alloc w3 _) hb4; have hl4s := stepAny hl3 hl4; obtain ⟨ha0, ha1, ha2, ha3, ha4, ha5, ha6, ha7, ha8, ha9, hx0, hx1, hx2, hx3⟩ := HQ.out w4 hl4s; obtain ⟨hc4, hf4⟩ := bcell hb4; (try have hz4 : w2.heap.size < w4.heap.size := (by have := hb4.size; simp at this; omega)); (try have hz5 : w3.heap.size < w4.heap.size := (by have := hb4.size; simp at this; omega)); have hs04 : w.heap.size + 1 < w4.heap.size := (by have := hl4s.size; omega))))
      all_goals (go_wp2_with fail; go_meet)
      · exact GotD.new hl4s hdw
      · have hkk : Bk (w3.alloc (.cells #[.slice none 0 0, .bool false, .int .i64 0, .int .i64 0, .int .i64 0, .slice none 0 0, .int .i64 0, .int .i64 0, .int .i64 0, .slice none 0 0] 39 (0, 0))) w3.heap.size 39 (dkC (.slice none 0 0) false 0 0 0 (.slice none 0 0) 0 0 0 (.slice none 0 0)) := Bk.newAt w3 _ (dkC _ _ _ _ _ _ _ _ _ _) rfl
        exact GotD.old hl4s (hdw.less' (fun x hx => by subst hx; omega)) (by simp) hl3.size (hkk.below hb4 hkk.lt)
      · have hkk : Bk ((w2.alloc (.cells #[.slice none 0 0, .bool false, .int .i64 0, .int .i64 0, .int .i64 0, .slice none 0 0, .int .i64 0, .int .i64 0, .int .i64 0, .slice none 0 0] 39 (0, 0))).drew) w2.heap.size 39 (dkC (.slice none 0 0) false 0 0 0 (.slice none 0 0) 0 0 0 (.slice none 0 0)) := Bk.newAt w2 _ (dkC _ _ _ _ _ _ _ _ _ _) rfl
        exact GotD.old hl4s (hdw.less' (fun x hx => by subst hx; omega)) (by omega) (Nat.le_refl _) ((hkk.below hb3 hkk.lt).below hl4 (hkk.below hb3 hkk.lt).lt)
    case rest =>
      obtain ⟨b, a, k, c, d, r, q', es2, rfl, rfl, hge, hkb, hdv, hb5⟩ := hcut
      have hlow5 := stepAny HL2.out hb5
      have hks : Bk wc w.heap.size 31 [.slice aub nb cub, .bool o, .int .i64 ct, .int .i64 co, .int .i64 cp, .slice auc cd.length cuc, .int .i64 l, .int .i64 lt, .int .i64 la, .slice aul ld.length cul] := ((HK2.out.2 _ (.tail _ (.head _))).below hb5 (HK2.out.2 _ (.tail _ (.head _))).lt)
      have hkc : Bk wc (w.heap.size + 1) 25 [.int .i64 t, .int .i64 1, .int .i64 p, .slice ax xs.length cx] := ((HK2.out.2 _ (.head _)).below hb5 (HK2.out.2 _ (.head _)).lt)
      by_cases hec : ec = 0
      · subst hec
        have z0 := hkc.cell 0
        have y7 := hks.cell 7
        simp only [List.getElem?_cons_zero, List.getElem?_cons_succ] at z0 y7
        by_cases htl : t = lt
        · have g1 : (t == lt) = true := by simpa using htl
          clear HDO HTO HF HC1 HNB HG htl
          go_wp2_with fail
          go_ret
          exact ⟨rfl, hlow5⟩
        have g1 : (t == lt) = false := by simpa using htl
        obtain ⟨l1, hs1, hv1, hl1, hpr⟩ := Dk.give_new (by have h := HG.out; rw [HO.out] at h; exact h) htl
        go_upto_region 7 with fail
        simp only [Prod.mk.injEq] at hs1
        obtain ⟨rfl, rfl, ⟨rfl, rfl, rfl, rfl⟩, rfl, rfl, rfl, rfl⟩ := hs1
        clear z0 y7 g1
        obtain ⟨an3, bs3, hans, hcase⟩ := Dk.answer_write bs2 ct2 cp2 cd2
        have hrun := Dk.run_ans 3 hv1 hl1 htl
        rw [hans] at hrun
        obtain ⟨hrun, hv3⟩ := hrun
        simp only at hrun hv3
        simp only [Dk.zcm] at hrun
        have HRUN := Lib.hid hrun
        have HV3 := Lib.hid hv3
        have HCASE := Lib.hid hcase
        have HPR := Lib.hid hpr
        have hpr2 := (prop_of hpr).1
        have ho := HO.out
        subst ho
        have hbl2 := Lib.hid (Dk.valid_iff.1 hv1).1
        have HV1 := Lib.hid hv1
        clear hrun hv3 hcase hans hv1 hl1 hpr HO
        have hR := run_w true ct2 1 cp2 l2 lt2 la2 hdv (fun x h => h ▸ hkb.lt) ⟨by show bs2.length ≤ 1000; (have := hbl2.out); omega, by show cd2.length ≤ 1000; omega, by show ld2.length ≤ 1000; omega⟩
        rw [HRUN.out] at hR
        have HR7 : Hid (Calls Try.prog 13 #[.agg #[.slice a n0 k, .bool true, .int .i64 ct2, .int .i64 1, .int .i64 cp2, .slice c n1 d, .int .i64 l2, .int .i64 lt2, .int .i64 la2, .slice r n2 q']] wc fun e w' => ∃ a3 k3 c3 d3 r3 q3 u5 v5 es3, e = .returned (.tuple #[.agg #[.slice a3 bs3.length k3, .bool false, .int .i64 0, .int .i64 0, .int .i64 0, .slice c3 0 d3, .int .i64 0, .int .i64 ct2, .int .i64 an3, .slice r3 0 q3], .agg #[.int .i64 ct2, .int .i64 an3, .slice u5 0 v5], .bool true]) ∧ Dv (fun x => x = b) w' (.slice a3 bs3.length k3) (.slice c3 0 d3) (.slice r3 0 q3) es3 bs3 [] [] ∧ Av (fun x => x = b) (fun W => Sl eb W (.slice u5 0 v5) []) w' ∧ Below wc.heap.size wc w') :=
          hR.mono fun e w' h => by
            obtain ⟨ub, uc, ul, es3, u, rfl, hd3, hs3, hb3⟩ := h
            obtain ⟨a3, k3, rfl, -⟩ := id hd3.here.r
            obtain ⟨c3, d3, rfl, -⟩ := id hd3.here.c
            obtain ⟨r3, q3, rfl, -⟩ := id hd3.here.l
            obtain ⟨u5, v5, rfl, -⟩ := id hs3.here
            have hn := hd3.here.n
            have hd4 := hd3
            have hs4 := hs3
            (try simp only [List.length_nil] at hn hd4 hs4 ⊢)
            rw [hn] at hd4 ⊢
            exact ⟨_, _, _, _, _, _, _, _, _, rfl, hd4, hs4, hb3⟩
        clear hR
        obtain ⟨⟨p0, p1, p2, p3, p4, p5, p6, p7, p8, p9⟩, -⟩ := Bk.fd hkb
        have hcs : w2.heap.size ≤ wc.heap.size := hb5.size
        obtain ⟨⟨p0, p1, p2, p3, p4, p5, p6, p7, p8, p9⟩, -⟩ := Bk.fd hkb
        go_upto_region 8 with (first
          | (go_at_call 13; (with_reducible refine HR7.out.mono ?_); rintro e w7 ⟨a3, k3, c3, d3, r3, q3, u5, v5, es3, rfl, hd3, hs3, hb7⟩; have hkb7 := hkb.below hb7 hkb.lt; clear p0 p1 p2 p3 p4 p5 p6 p7 p8 p9)
          | (refine wpList_store_part rfl 39 _ _ rfl b 0 10 [.slice a3 bs3.length k3, .bool false, .int .i64 0, .int .i64 0, .int .i64 0, .slice c3 0 d3, .int .i64 0, .int .i64 ct2, .int .i64 an3, .slice r3 0 q3] rfl rfl 39 _ (hkb7.alloc (.cells #[.int .i64 0, .int .i64 0, .slice none 0 0] 35 (0, 0))) rfl (by simp [dkC]) Try.sizeST (by simp [Value.oneCell']) ?_; intro w8' hk8 hg8)
          | (refine wpList_store_part rfl 35 _ _ rfl w7.heap.size 0 3 [.int .i64 ct2, .int .i64 an3, .slice u5 0 v5] rfl rfl 35 _ ((Bk.new w7 35 [.int .i64 0, .int .i64 0, .slice none 0 0]).grown hg8 (by have := hkb7.lt; simp; omega)) rfl (by simp) Try.sizeAN (by simp [Value.oneCell']) ?_; intro W8 hk9 hg9))
        rw [splice_all _ _ (by rfl)] at hk8 hk9
        obtain ⟨hB8, hA8, hS8, hK8, hL8⟩ := run_put (z := [.int .i64 0, .int .i64 0, .slice none 0 0]) hk8 hg8 hkb7.lt hk9 hg9
        clear hk8 hg8 hk9 hg9 hkb7
        have hl7 := stepAny hlow5 hb7
        have hl8 := hL8 w hl7 (by omega)
        have hlo : w.heap.size + 1 < wc.heap.size := by omega
        have hne0 : w.heap.size ≠ b := by omega
        have hne1 : w.heap.size + 1 ≠ b := by omega
        have hks8 : Bk W8 w.heap.size 31 [.slice aub nb cub, .bool false, .int .i64 ct, .int .i64 co, .int .i64 cp, .slice auc cd.length cuc, .int .i64 l, .int .i64 lt2, .int .i64 la2, .slice aul ld2.length cul] := (hks.below hb7 hks.lt).keep (hK8 _ (by have := hb7.size; omega) hne0)
        have hkc8 : Bk W8 (w.heap.size + 1) 25 [.int .i64 ct2, .int .i64 1, .int .i64 cp2, .slice ax cd2.length cx] := (hkc.below hb7 hkc.lt).keep (hK8 _ (by have := hb7.size; omega) hne1)
        have hde8 : De W8 (.slice a3 bs3.length k3) (.slice c3 0 d3) (.slice r3 0 q3) es3 bs3 [] [] := (hd3.keep (Nat.le_of_lt hS8) hK8).here
        have hsz8 : w2.heap.size ≤ b := hge
        obtain ⟨bA, hbA⟩ : ∃ x, x = w7.heap.size := ⟨_, rfl⟩
        rw [← hbA] at hA8 ⊢
        clear hbA hS8 hK8 hL8 hd3 hs3 hb7 hl7 hkb hdv hb5 hlow5 hks hkc HR7 HRUN hge
        have hen : nb = bs2.length := HNB.out.trans HDE.out.n
        have HEN := Lib.hid hen
        clear hen
        have x1 : W8.cell? ⟨bA, 1, none⟩ = some (.int .i64 an3) := hA8.cell 1
        rcases HCASE.out with ⟨hneg, hbs⟩ | ⟨hz, hx128, hblk, hbs⟩
        · have hn1 : (an3 != 0) = true := by rw [bne_iff_ne]; omega
          have hn2 : an3 < 0 := hneg
          subst hbs
          clear HCASE hneg
          have h128 : ∀ i (h : i < bs3.length), bs3[i].length = 128 := fun i h => by
            have h1 := (Dk.valid_iff.1 HV1.out).2.2
            unfold Dk.all128 at h1
            rw [List.all_eq_true] at h1
            simpa using h1 _ (List.getElem_mem h)
          have HDC : Hid (∀ W, Below W8.heap.size W8 W → Calls Try.prog 25 #[.agg #[.slice a3 bs3.length k3, .bool false, .int .i64 0, .int .i64 0, .int .i64 0, .slice c3 0 d3, .int .i64 0, .int .i64 ct2, .int .i64 an3, .slice r3 0 q3]] W fun e w' => ∃ aD kD, e = .returned (.slice aD bs3.flatten.length kD) ∧ Sl eb w' (.slice aD bs3.flatten.length kD) bs3.flatten ∧ Below W.heap.size W w') := fun W hW => by
            refine (dcont_w false 0 0 0 0 ct2 an3 (hde8.below hW (Nat.le_refl _)).dr.b (by have := hbl2.out; omega) (by have := hbl2.out; omega) h128).mono fun e w' h => ?_
            obtain ⟨v', rfl, hs, hb⟩ := h
            obtain ⟨a', c', rfl, -⟩ := id hs
            exact ⟨a', c', rfl, hs, hb⟩
          have HRC : Hid (∀ W, Below W8.heap.size W8 W → Calls Try.prog 26 #[.agg #[.slice aub nb cub, .bool false, .int .i64 ct, .int .i64 co, .int .i64 cp, .slice auc cd.length cuc, .int .i64 l, .int .i64 lt2, .int .i64 la2, .slice aul ld2.length cul]] W fun e w' => ∃ aE kE, e = .returned (.slice aE bs3.flatten.length kE) ∧ Sl eb w' (.slice aE bs3.flatten.length kE) bs3.flatten ∧ Below W.heap.size W w') := fun W hW => by
            have hp := ((HDE.out.below hl8 (Nat.le_refl _)).below hW (Nat.le_refl _)).dr.b
            rw [HEN.out] at hp ⊢
            refine (rcont_w false ct co cp l lt2 la2 hp (by have := hbl2.out; omega) h128).mono fun e w' h => ?_
            obtain ⟨v', rfl, ho, hb⟩ := h
            have hs := Sl.ofOwn ho
            obtain ⟨a', c', rfl, -⟩ := id hs
            exact ⟨a', c', rfl, hs, hb⟩
          generalize bs3.flatten = fl at *
          have HSB : Hid (∀ W aD kD aE kE, Sl eb W (.slice aD fl.length kD) fl → Sl eb W (.slice aE fl.length kE) fl → Calls Try.prog 24 #[.slice aD fl.length kD, .slice aE fl.length kE] W fun e w' => e = .returned (.bool true) ∧ Below W.heap.size W w') := fun W aD kD aE kE h1 h2 => by
            have h := sameBytes_w h1 h2
            rw [decide_eq_true rfl] at h
            exact h
          have HQ : Hid (∀ W, Below W8.heap.size W8 W → W.cell? ⟨bA, 1, none⟩ = some (.int .i64 an3) ∧ W.cell? ⟨b, 0, none⟩ = some (.slice a3 bs3.length k3) ∧ W.cell? ⟨b, 1, none⟩ = some (.bool false) ∧ W.cell? ⟨b, 2, none⟩ = some (.int .i64 0) ∧ W.cell? ⟨b, 3, none⟩ = some (.int .i64 0) ∧ W.cell? ⟨b, 4, none⟩ = some (.int .i64 0) ∧ W.cell? ⟨b, 5, none⟩ = some (.slice c3 0 d3) ∧ W.cell? ⟨b, 6, none⟩ = some (.int .i64 0) ∧ W.cell? ⟨b, 7, none⟩ = some (.int .i64 ct2) ∧ W.cell? ⟨b, 8, none⟩ = some (.int .i64 an3) ∧ W.cell? ⟨b, 9, none⟩ = some (.slice r3 0 q3) ∧ W.cell? ⟨w.heap.size, 0, none⟩ = some (.slice aub nb cub) ∧ W.cell? ⟨w.heap.size, 1, none⟩ = some (.bool false) ∧ W.cell? ⟨w.heap.size, 2, none⟩ = some (.int .i64 ct) ∧ W.cell? ⟨w.heap.size, 3, none⟩ = some (.int .i64 co) ∧ W.cell? ⟨w.heap.size, 4, none⟩ = some (.int .i64 cp) ∧ W.cell? ⟨w.heap.size, 5, none⟩ = some (.slice auc cd.length cuc) ∧ W.cell? ⟨w.heap.size, 6, none⟩ = some (.int .i64 l) ∧ W.cell? ⟨w.heap.size, 7, none⟩ = some (.int .i64 lt2) ∧ W.cell? ⟨w.heap.size, 8, none⟩ = some (.int .i64 la2) ∧ W.cell? ⟨w.heap.size, 9, none⟩ = some (.slice aul ld2.length cul)) := fun W hW => by
            have h1 := hA8.below hW hA8.lt
            have h2 := hB8.below hW hB8.lt
            have h3 := hks8.below hW hks8.lt
            exact ⟨h1.cell 1, h2.cell 0, h2.cell 1, h2.cell 2, h2.cell 3, h2.cell 4, h2.cell 5, h2.cell 6, h2.cell 7, h2.cell 8, h2.cell 9, h3.cell 0, h3.cell 1, h3.cell 2, h3.cell 3, h3.cell 4, h3.cell 5, h3.cell 6, h3.cell 7, h3.cell 8, h3.cell 9⟩
          have HL8 := Lib.hid hl8
          go_upto_region 9 with fail
          clear x1 hn1 hA8 hB8 hks8 hkc8 hde8 hl8 hne0 hne1 h128
          have hl0 := low_drew W8
          go_region_held3 (fun w' => w'.cell? ⟨bA, 1, none⟩ = some (.int .i64 an3) ∧ w'.cell? ⟨b, 0, none⟩ = some (.slice a3 bs3.length k3) ∧ w'.cell? ⟨b, 1, none⟩ = some (.bool false) ∧ w'.cell? ⟨b, 2, none⟩ = some (.int .i64 0) ∧ w'.cell? ⟨b, 3, none⟩ = some (.int .i64 0) ∧ w'.cell? ⟨b, 4, none⟩ = some (.int .i64 0) ∧ w'.cell? ⟨b, 5, none⟩ = some (.slice c3 0 d3) ∧ w'.cell? ⟨b, 6, none⟩ = some (.int .i64 0) ∧ w'.cell? ⟨b, 7, none⟩ = some (.int .i64 ct2) ∧ w'.cell? ⟨b, 8, none⟩ = some (.int .i64 an3) ∧ w'.cell? ⟨b, 9, none⟩ = some (.slice r3 0 q3) ∧ w'.cell? ⟨w.heap.size, 0, none⟩ = some (.slice aub nb cub) ∧ w'.cell? ⟨w.heap.size, 1, none⟩ = some (.bool false) ∧ w'.cell? ⟨w.heap.size, 2, none⟩ = some (.int .i64 ct) ∧ w'.cell? ⟨w.heap.size, 3, none⟩ = some (.int .i64 co) ∧ w'.cell? ⟨w.heap.size, 4, none⟩ = some (.int .i64 cp) ∧ w'.cell? ⟨w.heap.size, 5, none⟩ = some (.slice auc cd.length cuc) ∧ w'.cell? ⟨w.heap.size, 6, none⟩ = some (.int .i64 l) ∧ w'.cell? ⟨w.heap.size, 7, none⟩ = some (.int .i64 lt2) ∧ w'.cell? ⟨w.heap.size, 8, none⟩ = some (.int .i64 la2) ∧ w'.cell? ⟨w.heap.size, 9, none⟩ = some (.slice aul ld2.length cul)) (first | with_reducible exact HQ.out _ (by with_reducible assumption) | go_keep) ((first | (go_at_call 25; (with_reducible refine (HDC.out _ (by with_reducible assumption)).mono ?_); rintro e w22 ⟨aD, kD, rfl, hsD, hb22⟩; have hl22 := stepAny (by with_reducible assumption) hb22) | (go_at_call 26; (with_reducible refine (HRC.out _ (by with_reducible assumption)).mono ?_); rintro e w23 ⟨aE, kE, rfl, hsE, hb23⟩; have hl23 := stepAny (by with_reducible assumption) hb23) | (go_at_call 24; (with_reducible refine (HSB.out _ aD kD aE kE (hsD.below hb23 (Nat.le_refl _)) hsE).mono ?_); rintro e w24 ⟨rfl, hb24⟩; have hl24 := stepAny hl23 hb24)))
          all_goals (go_wp2_with fail)
          all_goals go_ret
          all_goals exact ⟨rfl, stepAny HL8.out hl24⟩
        have hn1 : (an3 != 0) = false := by rw [hz]; rfl
        subst hz
        clear HCASE
        skip
        go_upto_region 10 with fail
        clear x1 hn1 hA8
        have hp2 : Dk.prop (ct2 + 2) = true := by rw [show ct2 + 2 = ct2 + 2 * ((1 : Nat) : Int) by omega]; exact Dk.prop_add HPR.out 1
        have hp4 : Dk.prop (ct2 + 4) = true := by rw [show ct2 + 4 = ct2 + 2 * ((2 : Nat) : Int) by omega]; exact Dk.prop_add HPR.out 2
        obtain ⟨l4, hgv4, hv4, hl4, hrun4, hv5⟩ := Dk.read_back (t2 := ct2 + 2) (q := cp2) HV3.out hp2 (by omega) hblk
        have hblk' : 0 ≤ cp2 ∧ cp2 < 160 := by unfold Dk.blk at hblk; simpa using hblk
        have hgd : bs3.getD cp2.toNat [] = cd2 := by rw [hbs, List.getD_eq_getElem?_getD, List.getElem?_set, if_pos rfl, if_pos (by have := hbl2.out; omega)]; rfl
        rw [hgd] at hrun4 hv5
        have hlen3 : bs3.length ≤ 1000 := by rw [hbs, List.length_set]; have := hbl2.out; omega
        have HGV4 := Lib.hid hgv4
        have HV4 := Lib.hid hv4
        have HRUN4 := Lib.hid hrun4
        have HV5 := Lib.hid hv5
        have HP4 := Lib.hid hp4
        have HBS := Lib.hid hbs
        have HLEN3 := Lib.hid hlen3
        have HX128 := Lib.hid hx128
        have hbk := Lib.hid hblk'
        clear hgv4 hv4 hl4 hrun4 hv5 hp2 hp4 hgd hblk hblk' hbs hlen3 hx128
        have HD10 : Hid (Calls Try.prog 11 #[.agg #[.slice a3 bs3.length k3, .bool false, .int .i64 0, .int .i64 0, .int .i64 0, .slice c3 0 d3, .int .i64 0, .int .i64 ct2, .int .i64 0, .slice r3 0 q3], .agg #[.int .i64 (ct2 + 2), .int .i64 0, .int .i64 cp2, .slice none 0 0]] W8 fun e w' => ∃ a4 k4 c4 d4 r4 q4 es4, e = .returned (.tuple #[.agg #[.slice a4 bs3.length k4, .bool true, .int .i64 (ct2 + 2), .int .i64 0, .int .i64 cp2, .slice c4 0 d4, .int .i64 l4, .int .i64 ct2, .int .i64 0, .slice r4 0 q4], .int .i64 0]) ∧ Dw W8.heap.size (fun x => W8.heap.size ≤ x) w' (.slice a4 bs3.length k4) (.slice c4 0 d4) (.slice r4 0 q4) es4 bs3 [] [] ∧ Below W8.heap.size W8 w') := do_f (X := fun x => W8.heap.size ≤ x) false 0 0 0 0 ct2 0 (ct2 + 2) 0 cp2 hde8 (Av.start (fun W' hk i h h' => (hde8.keep hk).e i h h') (fun x h => h)) (Sl.nil _ _) (by have := hde8.n; have := HLEN3.out; omega) (by simp) (by simp) (by simp) HGV4.out rfl rfl rfl
        have HL8 := Lib.hid hl8
        have HKS8 := Lib.hid hks8
        have HKC8 := Lib.hid hkc8
        obtain ⟨⟨p0, p1, p2, p3, p4, p5, p6, p7, p8, p9⟩, -⟩ := Bk.fd hB8
        obtain ⟨g0, g2⟩ : W8.cell? ⟨(w.heap.size + 1), 0, none⟩ = some (.int .i64 ct2) ∧ W8.cell? ⟨(w.heap.size + 1), 2, none⟩ = some (.int .i64 cp2) := ⟨hkc8.cell 0, hkc8.cell 2⟩
        clear hB8 hks8 hkc8 hde8 hl8
        go_upto_region 11 with (go_at_call 11; (with_reducible refine HD10.out.mono ?_); rintro e w10 ⟨a4, k4, c4, d4, r4, q4, es4, rfl, hdw4, hb10⟩)
        have hk11 : Bk (w10.alloc (.cells #[.slice a4 bs3.length k4, .bool true, .int .i64 (ct2 + 2), .int .i64 0, .int .i64 cp2, .slice c4 0 d4, .int .i64 l4, .int .i64 ct2, .int .i64 0, .slice r4 0 q4] 39 (0, 0))) w10.heap.size 39 [.slice a4 bs3.length k4, .bool true, .int .i64 (ct2 + 2), .int .i64 0, .int .i64 cp2, .slice c4 0 d4, .int .i64 l4, .int .i64 ct2, .int .i64 0, .slice r4 0 q4] := Bk.newAt _ _ [.slice a4 bs3.length k4, .bool true, .int .i64 (ct2 + 2), .int .i64 0, .int .i64 cp2, .slice c4 0 d4, .int .i64 l4, .int .i64 ct2, .int .i64 0, .slice r4 0 q4] rfl
        have hd11 : Dv (fun x => x = w10.heap.size) (w10.alloc (.cells #[.slice a4 bs3.length k4, .bool true, .int .i64 (ct2 + 2), .int .i64 0, .int .i64 cp2, .slice c4 0 d4, .int .i64 l4, .int .i64 ct2, .int .i64 0, .slice r4 0 q4] 39 (0, 0))) (.slice a4 bs3.length k4) (.slice c4 0 d4) (.slice r4 0 q4) es4 bs3 [] [] := (Dv.start (X := fun x => x = w10.heap.size) hdw4.de (fun _ h => Nat.le_of_eq h.symm)).below (low_alloc _ _)
        have hb11 : Below W8.heap.size W8 (w10.alloc (.cells #[.slice a4 bs3.length k4, .bool true, .int .i64 (ct2 + 2), .int .i64 0, .int .i64 cp2, .slice c4 0 d4, .int .i64 l4, .int .i64 ct2, .int .i64 0, .slice r4 0 q4] 39 (0, 0))) := stepAny hb10 (low_alloc _ _)
        have hge11 : W8.heap.size ≤ w10.heap.size := hb10.size
        clear hdw4 hb10 HD10 p0 p1 p2 p3 p4 p5 p6 p7 p8 p9 g0 g2
        generalize w10.alloc (.cells #[.slice a4 bs3.length k4, .bool true, .int .i64 (ct2 + 2), .int .i64 0, .int .i64 cp2, .slice c4 0 d4, .int .i64 l4, .int .i64 ct2, .int .i64 0, .slice r4 0 q4] 39 (0, 0)) = W11 at *
        obtain ⟨b4, hb4e⟩ : ∃ x, x = w10.heap.size := ⟨_, rfl⟩
        rw [← hb4e] at hk11 hd11 hge11 ⊢
        clear hb4e
        have hl11 := stepAny HL8.out hb11
        have HKS11 := Lib.hid (HKS8.out.below hb11 HKS8.out.lt)
        have HKC11 := Lib.hid (HKC8.out.below hb11 HKC8.out.lt)
        have hlt8 : w.heap.size + 1 < W8.heap.size := HKC8.out.lt
        clear hb11 HKS8 HKC8
        have hR := run_w true (ct2 + 2) 0 cp2 l4 ct2 0 hd11 (fun x h => h ▸ hk11.lt) ⟨by show bs3.length ≤ 1000; exact HLEN3.out, by simp, by simp⟩
        rw [HRUN4.out] at hR
        have HR12 : Hid (Calls Try.prog 13 #[.agg #[.slice a4 bs3.length k4, .bool true, .int .i64 (ct2 + 2), .int .i64 0, .int .i64 cp2, .slice c4 0 d4, .int .i64 l4, .int .i64 ct2, .int .i64 0, .slice r4 0 q4]] W11 fun e w' => ∃ a5 k5 c5 d5 r5 q5 u6 v6 es5, e = .returned (.tuple #[.agg #[.slice a5 bs3.length k5, .bool false, .int .i64 0, .int .i64 0, .int .i64 0, .slice c5 0 d5, .int .i64 0, .int .i64 (ct2 + 2), .int .i64 0, .slice r5 cd2.length q5], .agg #[.int .i64 (ct2 + 2), .int .i64 0, .slice u6 cd2.length v6], .bool true]) ∧ Dv (fun x => x = b4) w' (.slice a5 bs3.length k5) (.slice c5 0 d5) (.slice r5 cd2.length q5) es5 bs3 [] cd2 ∧ Av (fun x => x = b4) (fun W => Sl eb W (.slice u6 cd2.length v6) cd2) w' ∧ Below W11.heap.size W11 w') :=
          hR.mono fun e w' h => by
            obtain ⟨ub, uc, ul, es5, u, rfl, hd3, hs3, hb3⟩ := h
            obtain ⟨a3, k3, rfl, -⟩ := id hd3.here.r
            obtain ⟨c3, d3, rfl, -⟩ := id hd3.here.c
            obtain ⟨r3, q3, rfl, -⟩ := id hd3.here.l
            obtain ⟨u5, v5, rfl, -⟩ := id hs3.here
            have hn := hd3.here.n
            have hd4 := hd3
            have hs4 := hs3
            (try simp only [List.length_nil] at hn hd4 hs4 ⊢)
            rw [hn] at hd4 ⊢
            exact ⟨_, _, _, _, _, _, _, _, _, rfl, hd4, hs4, hb3⟩
        clear hR
        obtain ⟨⟨p0, p1, p2, p3, p4, p5, p6, p7, p8, p9⟩, -⟩ := Bk.fd hk11
        go_upto_region 12 with (first
          | (go_at_call 13; (with_reducible refine HR12.out.mono ?_); rintro e w12 ⟨a5, k5, c5, d5, r5, q5, u6, v6, es5, rfl, hd3, hs3, hb12⟩; have hkb7 := hk11.below hb12 hk11.lt; clear p0 p1 p2 p3 p4 p5 p6 p7 p8 p9)
          | (refine wpList_store_part rfl 39 _ _ rfl b4 0 10 [.slice a5 bs3.length k5, .bool false, .int .i64 0, .int .i64 0, .int .i64 0, .slice c5 0 d5, .int .i64 0, .int .i64 (ct2 + 2), .int .i64 0, .slice r5 cd2.length q5] rfl rfl 39 _ (hkb7.alloc (.cells #[.int .i64 0, .int .i64 0, .slice none 0 0] 35 (0, 0))) rfl (by simp ) Try.sizeST (by simp [Value.oneCell']) ?_; intro w8' hk8 hg8)
          | (refine wpList_store_part rfl 35 _ _ rfl w12.heap.size 0 3 [.int .i64 (ct2 + 2), .int .i64 0, .slice u6 cd2.length v6] rfl rfl 35 _ ((Bk.new w12 35 [.int .i64 0, .int .i64 0, .slice none 0 0]).grown hg8 (by have := hkb7.lt; simp; omega)) rfl (by simp) Try.sizeAN (by simp [Value.oneCell']) ?_; intro W12 hk9 hg9))
        rw [splice_all _ _ (by rfl)] at hk8 hk9
        obtain ⟨hB12, hA12, hS12, hK12, hL12⟩ := run_put (z := [.int .i64 0, .int .i64 0, .slice none 0 0]) hk8 hg8 hkb7.lt hk9 hg9
        clear hk8 hg8 hk9 hg9 hkb7
        have hl12 := hL12 w (stepAny hl11 hb12) (by omega)
        have hsz12 : W11.heap.size ≤ w12.heap.size := hb12.size
        have hlt11 : w.heap.size + 1 < W11.heap.size := HKC11.out.lt
        have hks12 : Bk W12 w.heap.size 31 [.slice aub nb cub, .bool false, .int .i64 ct, .int .i64 co, .int .i64 cp, .slice auc cd.length cuc, .int .i64 l, .int .i64 lt2, .int .i64 la2, .slice aul ld2.length cul] := (HKS11.out.below hb12 HKS11.out.lt).keep (hK12 _ (by omega) (by omega))
        have hkc12 : Bk W12 (w.heap.size + 1) 25 [.int .i64 ct2, .int .i64 1, .int .i64 cp2, .slice ax cd2.length cx] := (HKC11.out.below hb12 HKC11.out.lt).keep (hK12 _ (by omega) (by omega))
        have hde12 : De W12 (.slice a5 bs3.length k5) (.slice c5 0 d5) (.slice r5 cd2.length q5) es5 bs3 [] cd2 := (hd3.keep (Nat.le_of_lt hS12) hK12).here
        have hs12 : Sl eb W12 (.slice u6 cd2.length v6) cd2 := (hs3.keep (Nat.le_of_lt hS12) hK12).here
        obtain ⟨bA2, hbA2⟩ : ∃ x, x = w12.heap.size := ⟨_, rfl⟩
        rw [← hbA2] at hA12 ⊢
        clear hbA2 hS12 hK12 hL12 hd3 hs3 hb12 hl11 hd11 hk11 HR12 HRUN4 hge11 HKS11 HKC11
        have hx12 : Sl eb W12 (.slice ax cd2.length cx) cd2 := HX.out.below hl12 (Nat.le_refl _)
        have HSB : Hid (Calls Try.prog 24 #[.slice u6 cd2.length v6, .slice ax cd2.length cx] W12 fun e w' => e = .returned (.bool true) ∧ Below W12.heap.size W12 w') := by
          have h := sameBytes_w hs12 hx12
          rw [decide_eq_true rfl] at h
          exact h
        have HBL := Lib.hid (rblock_w oth)
        obtain ⟨x1, x2⟩ : W12.cell? ⟨bA2, 1, none⟩ = some (.int .i64 0) ∧ W12.cell? ⟨bA2, 2, none⟩ = some (.slice u6 cd2.length v6) := ⟨hA12.cell 1, hA12.cell 2⟩
        have x3 : W12.cell? ⟨(w.heap.size + 1), 3, none⟩ = some (.slice ax cd2.length cx) := hkc12.cell 3
        have HL12 := Lib.hid hl12
        have HKS12 := Lib.hid hks12
        have HKC12 := Lib.hid hkc12
        have HDE12 := Lib.hid hde12
        have HB12 := Lib.hid hB12
        clear hks12 hkc12 hde12 hB12 hl12 hs12 hx12 hA12
        cases hbo : Dk.blk oth with
        | false =>
          rw [hbo] at HBL
          clear hbo
          go_wp2_with (first
            | (go_at_call 24; (with_reducible refine HSB.out.mono ?_); rintro e w13 ⟨rfl, hb13⟩)
            | (go_at_call 27; (with_reducible refine (HBL.out _).mono ?_); rintro e w14 ⟨rfl, rfl⟩))
          go_ret
          exact ⟨rfl, stepAny HL12.out hb13⟩
        | true =>
          rw [hbo] at HBL
          have hoth : 0 ≤ oth ∧ oth < 160 := by unfold Dk.blk at hbo; simpa using hbo
          have HBO := Lib.hid hbo
          clear hbo
          go_upto_region 14 with (go_at_call 24; (with_reducible refine HSB.out.mono ?_); rintro e w13 ⟨rfl, hb13⟩)
          have hkc13 : Bk w13 (w.heap.size + 1) 25 [.int .i64 ct2, .int .i64 1, .int .i64 cp2, .slice ax cd2.length cx] := HKC12.out.below hb13 HKC12.out.lt
          have hks13 : Bk w13 w.heap.size 31 [.slice aub nb cub, .bool false, .int .i64 ct, .int .i64 co, .int .i64 cp, .slice auc cd.length cuc, .int .i64 l, .int .i64 lt2, .int .i64 la2, .slice aul ld2.length cul] := HKS12.out.below hb13 HKS12.out.lt
          have hB13 : Bk w13 b4 39 [.slice a5 bs3.length k5, .bool false, .int .i64 0, .int .i64 0, .int .i64 0, .slice c5 0 d5, .int .i64 0, .int .i64 (ct2 + 2), .int .i64 0, .slice r5 cd2.length q5] := HB12.out.below hb13 HB12.out.lt
          have hde13 : De w13 (.slice a5 bs3.length k5) (.slice c5 0 d5) (.slice r5 cd2.length q5) es5 bs3 [] cd2 := HDE12.out.below hb13 (Nat.le_refl _)
          have hl13 := stepAny HL12.out hb13
          obtain ⟨g0, g2⟩ : w13.cell? ⟨(w.heap.size + 1), 0, none⟩ = some (.int .i64 ct2) ∧ w13.cell? ⟨(w.heap.size + 1), 2, none⟩ = some (.int .i64 cp2) := ⟨hkc13.cell 0, hkc13.cell 2⟩
          clear x1 x2 x3 HSB HKS12 HKC12 HDE12 HB12 hb13
          by_cases hop : oth = cp2
          · have o1 : (oth == cp2) = true := by simpa using hop
            clear hop
            go_wp2_with (go_at_call 27; (with_reducible refine (HBL.out _).mono ?_); rintro e w14 ⟨rfl, rfl⟩)
            go_ret
            exact ⟨rfl, hl13⟩
          have o1 : (oth == cp2) = false := by simpa using hop
          have HOP := Lib.hid hop
          clear hop
          go_upto_region 16 with (go_at_call 27; (with_reducible refine (HBL.out _).mono ?_); rintro e w14 ⟨rfl, rfl⟩)
          clear o1
          obtain ⟨⟨p0, p1, p2, p3, p4, p5, p6, p7, p8, p9⟩, -⟩ := Bk.fd hB13
          obtain ⟨l6, hgv6, hv6, hl6, hrun6, hv7⟩ := Dk.read_back (t2 := ct2 + 4) (q := oth) HV5.out HP4.out (by omega) HBO.out
          obtain ⟨dd7, hdd7⟩ : ∃ x, bs2.getD oth.toNat [] = x := ⟨_, rfl⟩
          have hgd : bs3.getD oth.toNat [] = dd7 := by rw [← hdd7, HBS.out, List.getD_eq_getElem?_getD, List.getElem?_set, if_neg (by have := HOP.out; have := hbk.out; omega), ← List.getD_eq_getElem?_getD]
          rw [hgd] at hrun6
          have HGV6 := Lib.hid hgv6
          have HRUN6 := Lib.hid hrun6
          have HDD7 := Lib.hid hdd7
          clear hgv6 hv6 hl6 hrun6 hv7 hgd hdd7
          have HD16 : Hid (Calls Try.prog 11 #[.agg #[.slice a5 bs3.length k5, .bool false, .int .i64 0, .int .i64 0, .int .i64 0, .slice c5 0 d5, .int .i64 0, .int .i64 (ct2 + 2), .int .i64 0, .slice r5 cd2.length q5], .agg #[.int .i64 (ct2 + 4), .int .i64 0, .int .i64 oth, .slice none 0 0]] w13 fun e w' => ∃ a6 k6 c6 d6 r6 q6 es6, e = .returned (.tuple #[.agg #[.slice a6 bs3.length k6, .bool true, .int .i64 (ct2 + 4), .int .i64 0, .int .i64 oth, .slice c6 0 d6, .int .i64 l6, .int .i64 (ct2 + 2), .int .i64 0, .slice r6 cd2.length q6], .int .i64 0]) ∧ Dw w13.heap.size (fun x => w13.heap.size ≤ x) w' (.slice a6 bs3.length k6) (.slice c6 0 d6) (.slice r6 cd2.length q6) es6 bs3 [] cd2 ∧ Below w13.heap.size w13 w') := do_f (X := fun x => w13.heap.size ≤ x) false 0 0 0 0 (ct2 + 2) 0 (ct2 + 4) 0 oth hde13 (Av.start (fun W' hk i h h' => (hde13.keep hk).e i h h') (fun x h => h)) (Sl.nil _ _) (by have := hde13.n; have := HLEN3.out; omega) (by simp) (by have := HX128.out; omega) (by simp) HGV6.out rfl rfl rfl
          have HL13 := Lib.hid hl13
          have HKS13 := Lib.hid hks13
          clear hB13 hks13 hkc13 hde13 hl13
          go_upto_region 17 with (go_at_call 11; (with_reducible refine HD16.out.mono ?_); rintro e w16 ⟨a6, k6, c6, d6, r6, q6, es6, rfl, hdw6, hb16⟩)
          have hk17 : Bk (w16.alloc (.cells #[.slice a6 bs3.length k6, .bool true, .int .i64 (ct2 + 4), .int .i64 0, .int .i64 oth, .slice c6 0 d6, .int .i64 l6, .int .i64 (ct2 + 2), .int .i64 0, .slice r6 cd2.length q6] 39 (0, 0))) w16.heap.size 39 [.slice a6 bs3.length k6, .bool true, .int .i64 (ct2 + 4), .int .i64 0, .int .i64 oth, .slice c6 0 d6, .int .i64 l6, .int .i64 (ct2 + 2), .int .i64 0, .slice r6 cd2.length q6] := Bk.newAt _ _ [.slice a6 bs3.length k6, .bool true, .int .i64 (ct2 + 4), .int .i64 0, .int .i64 oth, .slice c6 0 d6, .int .i64 l6, .int .i64 (ct2 + 2), .int .i64 0, .slice r6 cd2.length q6] rfl
          have hd17 : Dv (fun x => x = w16.heap.size) (w16.alloc (.cells #[.slice a6 bs3.length k6, .bool true, .int .i64 (ct2 + 4), .int .i64 0, .int .i64 oth, .slice c6 0 d6, .int .i64 l6, .int .i64 (ct2 + 2), .int .i64 0, .slice r6 cd2.length q6] 39 (0, 0))) (.slice a6 bs3.length k6) (.slice c6 0 d6) (.slice r6 cd2.length q6) es6 bs3 [] cd2 := (Dv.start (X := fun x => x = w16.heap.size) hdw6.de (fun _ h => Nat.le_of_eq h.symm)).below (low_alloc _ _)
          have hb17 : Below w13.heap.size w13 (w16.alloc (.cells #[.slice a6 bs3.length k6, .bool true, .int .i64 (ct2 + 4), .int .i64 0, .int .i64 oth, .slice c6 0 d6, .int .i64 l6, .int .i64 (ct2 + 2), .int .i64 0, .slice r6 cd2.length q6] 39 (0, 0))) := stepAny hb16 (low_alloc _ _)
          clear hdw6 hb16 HD16 p0 p1 p2 p3 p4 p5 p6 p7 p8 p9 g0 g2
          generalize w16.alloc (.cells #[.slice a6 bs3.length k6, .bool true, .int .i64 (ct2 + 4), .int .i64 0, .int .i64 oth, .slice c6 0 d6, .int .i64 l6, .int .i64 (ct2 + 2), .int .i64 0, .slice r6 cd2.length q6] 39 (0, 0)) = W17 at *
          obtain ⟨b6, hb6e⟩ : ∃ x, x = w16.heap.size := ⟨_, rfl⟩
          rw [← hb6e] at hk17 hd17 ⊢
          clear hb6e
          have hl17 := stepAny HL13.out hb17
          have hks17 := HKS13.out.below hb17 HKS13.out.lt
          clear hb17 HKS13
          have hR := run_w true (ct2 + 4) 0 oth l6 (ct2 + 2) 0 hd17 (fun x h => h ▸ hk17.lt) ⟨by show bs3.length ≤ 1000; exact HLEN3.out, by simp, by show cd2.length ≤ 1000; have := HX128.out; omega⟩
          rw [HRUN6.out] at hR
          have HR17 : Hid (Calls Try.prog 13 #[.agg #[.slice a6 bs3.length k6, .bool true, .int .i64 (ct2 + 4), .int .i64 0, .int .i64 oth, .slice c6 0 d6, .int .i64 l6, .int .i64 (ct2 + 2), .int .i64 0, .slice r6 cd2.length q6]] W17 fun e w' => ∃ a7 k7 c7 d7 r7 q7 u8 v8 es7, e = .returned (.tuple #[.agg #[.slice a7 bs3.length k7, .bool false, .int .i64 0, .int .i64 0, .int .i64 0, .slice c7 0 d7, .int .i64 0, .int .i64 (ct2 + 4), .int .i64 0, .slice r7 dd7.length q7], .agg #[.int .i64 (ct2 + 4), .int .i64 0, .slice u8 dd7.length v8], .bool true]) ∧ Dv (fun x => x = b6) w' (.slice a7 bs3.length k7) (.slice c7 0 d7) (.slice r7 dd7.length q7) es7 bs3 [] dd7 ∧ Av (fun x => x = b6) (fun W => Sl eb W (.slice u8 dd7.length v8) dd7) w' ∧ Below W17.heap.size W17 w') :=
            hR.mono fun e w' h => by
              obtain ⟨ub, uc, ul, es7, u, rfl, hd3, hs3, hb3⟩ := h
              obtain ⟨a3, k3, rfl, -⟩ := id hd3.here.r
              obtain ⟨c3, d3, rfl, -⟩ := id hd3.here.c
              obtain ⟨r3, q3, rfl, -⟩ := id hd3.here.l
              obtain ⟨u5, v5, rfl, -⟩ := id hs3.here
              have hn := hd3.here.n
              have hd4 := hd3
              have hs4 := hs3
              (try simp only [List.length_nil] at hn hd4 hs4 ⊢)
              rw [hn] at hd4 ⊢
              exact ⟨_, _, _, _, _, _, _, _, _, rfl, hd4, hs4, hb3⟩
          clear hR
          obtain ⟨⟨p0, p1, p2, p3, p4, p5, p6, p7, p8, p9⟩, -⟩ := Bk.fd hk17
          go_upto_region 18 with (go_at_call 13; (with_reducible refine HR17.out.mono ?_); rintro e w18 ⟨a7, k7, c7, d7, r7, q7, u8, v8, es7, rfl, -, hs18, hb18⟩)
          have hb19 : Below w18.heap.size w18 ((w18.alloc (.cells #[.slice a7 bs3.length k7, .bool false, .int .i64 0, .int .i64 0, .int .i64 0, .slice c7 0 d7, .int .i64 0, .int .i64 (ct2 + 4), .int .i64 0, .slice r7 dd7.length q7] 39 (0, 0))).alloc (.cells #[.int .i64 (ct2 + 4), .int .i64 0, .slice u8 dd7.length v8] 35 (0, 0))) := stepAny (low_alloc _ _) (low_alloc _ _)
          have hk19 : Bk ((w18.alloc (.cells #[.slice a7 bs3.length k7, .bool false, .int .i64 0, .int .i64 0, .int .i64 0, .slice c7 0 d7, .int .i64 0, .int .i64 (ct2 + 4), .int .i64 0, .slice r7 dd7.length q7] 39 (0, 0))).alloc (.cells #[.int .i64 (ct2 + 4), .int .i64 0, .slice u8 dd7.length v8] 35 (0, 0))) (w18.heap.size + 1) 35 [.int .i64 (ct2 + 4), .int .i64 0, .slice u8 dd7.length v8] := Bk.newAt _ _ [.int .i64 (ct2 + 4), .int .i64 0, .slice u8 dd7.length v8] (by simp)
          have hl19 := stepAny (stepAny hl17 hb18) hb19
          have hs19 : Sl eb ((w18.alloc (.cells #[.slice a7 bs3.length k7, .bool false, .int .i64 0, .int .i64 0, .int .i64 0, .slice c7 0 d7, .int .i64 0, .int .i64 (ct2 + 4), .int .i64 0, .slice r7 dd7.length q7] 39 (0, 0))).alloc (.cells #[.int .i64 (ct2 + 4), .int .i64 0, .slice u8 dd7.length v8] 35 (0, 0))) (.slice u8 dd7.length v8) dd7 := hs18.here.below hb19 (Nat.le_refl _)
          have hks18 := hks17.below hb18 hks17.lt
          have hks19 := hks18.below hb19 hks18.lt
          clear hs18 hb18 hb19 hks17 hks18 hl17 hd17 hk17 HR17 p0 p1 p2 p3 p4 p5 p6 p7 p8 p9
          generalize (w18.alloc (.cells #[.slice a7 bs3.length k7, .bool false, .int .i64 0, .int .i64 0, .int .i64 0, .slice c7 0 d7, .int .i64 0, .int .i64 (ct2 + 4), .int .i64 0, .slice r7 dd7.length q7] 39 (0, 0))).alloc (.cells #[.int .i64 (ct2 + 4), .int .i64 0, .slice u8 dd7.length v8] 35 (0, 0)) = W19 at *
          obtain ⟨b7, hb7e⟩ : ∃ x, x = w18.heap.size + 1 := ⟨_, rfl⟩
          rw [← hb7e] at hk19 ⊢
          clear hb7e
          have hde19 := HDE.out.below hl19 (Nat.le_refl _)
          have hn19 := hde19.n
          have h160 := hbl2.out
          have ho1 : oth.toNat < es.length := by omega
          have ho2 : oth.toNat < bs2.length := by omega
          have hse : Sl eb W19 (et es[oth.toNat]) dd7 := by
            have h := hde19.e oth.toNat ho1 ho2
            have e : bs2[oth.toNat] = dd7 := by rw [← HDD7.out, List.getD_eq_getElem?_getD, List.getElem?_eq_getElem ho2]; rfl
            rw [e] at h; exact h
          obtain ⟨ag, cg, hge', hq1, hq2, hq3, hq4⟩ := id hse
          obtain ⟨a0, c0, he0, hr1, hr2, hr3, hr4⟩ := id hde19.r
          injection he0 with he0 he1 he2
          subst he0 he2
          obtain ⟨g9, o9, e9, hlt9, hc9⟩ := hr4 oth.toNat ho1
          subst e9
          rw [hge'] at hc9 hse
          have HC9 : Hid (∀ W, Below W19.heap.size W19 W → W.cell? ⟨g9, o9 + oth.toNat, none⟩ = some (.slice ag dd7.length cg)) := fun W hW => by rw [hW.cell (p := ⟨g9, o9 + oth.toNat, none⟩) hlt9]; exact hc9
          have HSB2 : Hid (∀ W, Below W19.heap.size W19 W → Calls Try.prog 24 #[.slice u8 dd7.length v8, .slice ag dd7.length cg] W fun e w' => e = .returned (.bool true) ∧ Below W.heap.size W w') := fun W hW => by
            have h := sameBytes_w (hs19.below hW (Nat.le_refl _)) (hse.below hW (Nat.le_refl _))
            rw [decide_eq_true rfl] at h
            exact h
          have HQ : Hid (∀ W, Below W19.heap.size W19 W → W.cell? ⟨b7, 2, none⟩ = some (.slice u8 dd7.length v8) ∧ W.cell? ⟨w.heap.size, 0, none⟩ = some (.slice (some ⟨g9, o9, none⟩) nb cub) ∧ W.cell? ⟨g9, o9 + oth.toNat, none⟩ = some (.slice ag dd7.length cg)) := fun W hW => by
            have h1 := hk19.below hW hk19.lt
            have h2 := hks19.below hW hks19.lt
            exact ⟨h1.cell 2, h2.cell 0, HC9.out W hW⟩
          have o1 : 0 ≤ oth := hoth.1
          have o2 : oth < (nb : Int) := by have := HEN.out; omega
          have HL19 := Lib.hid hl19
          clear hk19 hks19 hl19 hs19 hse hde19 hn19 hq1 hq2 hq3 hq4 hr1 hr2 hr3 hr4 hge' he1 hc9 h160 ho1 ho2 hlt9 HDE HX
          have hl0 := low_drew W19
          go_region_held3 (fun w' => w'.cell? ⟨b7, 2, none⟩ = some (.slice u8 dd7.length v8) ∧ w'.cell? ⟨w.heap.size, 0, none⟩ = some (.slice (some ⟨g9, o9, none⟩) nb cub) ∧ w'.cell? ⟨g9, o9 + oth.toNat, none⟩ = some (.slice ag dd7.length cg)) (first | with_reducible exact HQ.out _ (by with_reducible assumption) | go_keep) ((first | (go_at_call 24; (with_reducible refine (HSB2.out _ (by with_reducible assumption)).mono ?_); rintro e w20 ⟨rfl, hb20⟩; have hl20 := stepAny hl0 hb20)))
          all_goals (go_wp2_with fail)
          all_goals go_ret
          all_goals exact ⟨rfl, stepAny HL19.out hl20⟩
      · have hne : (ec != 0) = true := by simpa using hec
        clear hec hdv
        go_wp2_with fail
        go_ret
        exact ⟨rfl, hlow5⟩
end Go.Proofs.Yteeoonoccklhmaa
