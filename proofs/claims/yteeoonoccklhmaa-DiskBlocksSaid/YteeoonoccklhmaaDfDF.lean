/-
  The walk of Do of disk, cases DF (printed by gen/mk11do.py).
-/
import Derived.Test.YteeoonoccklhmaaDf
namespace Go.Proofs.Yteeoonoccklhmaa
open Go.RowKit

set_option maxRecDepth 100000 in
set_option maxHeartbeats 8000000 in
theorem do_D (o : Bool) (ct co cp l lt la t q p : Int) {ub uc ul ux : Value} {es : List Tr} {bs : List (List UInt8)} {cd ld xs : List UInt8} {w : World} {X : Nat → Prop} (hd : De w ub uc ul es bs cd ld) (hE : Av X (fun W => ∀ i (h : i < es.length) (h' : i < bs.length), Sl eb W (et es[i]) bs[i]) w)
    (hx : Sl eb w ux xs) (hes : es.length ≤ 1000) (hcd : cd.length ≤ 1000) (hld : ld.length ≤ 1000) (hxs : xs.length ≤ 1000) (ho : o = true) (hv : Dk.valid (bs, (o, (ct, co, cp, cd), l, (lt, la, ld))) = true) (hp : Dk.prop t = true) (h : t < ct) :
    Calls Try.prog 11 #[.agg #[ub, .bool o, .int .i64 ct, .int .i64 co, .int .i64 cp, uc, .int .i64 l, .int .i64 lt, .int .i64 la, ul], .agg #[.int .i64 t, .int .i64 q, .int .i64 p, ux]] w (RetDo w X (Dk.give (bs, (o, (ct, co, cp, cd), l, (lt, la, ld))) (t, q, p, xs))) := by
  obtain ⟨aub, cub, hub, -⟩ := id hd.r
  obtain ⟨auc, cuc, huc, -⟩ := id hd.c
  obtain ⟨aul, cul, hul, -⟩ := id hd.l
  obtain ⟨ax, cx, hux, -⟩ := id hx
  subst hub huc hul hux
  obtain ⟨W0, hW0⟩ : ∃ W0, W0 = ((w.alloc (.cells #[.slice aub es.length cub, .bool o, .int .i64 ct, .int .i64 co, .int .i64 cp, .slice auc cd.length cuc, .int .i64 l, .int .i64 lt, .int .i64 la, .slice aul ld.length cul] 39 (0, 0))).alloc (.cells #[.int .i64 t, .int .i64 q, .int .i64 p, .slice ax xs.length cx] 34 (0, 0))).alloc (.cells #[.slice none 0 0, .bool false, .int .i64 0, .int .i64 0, .int .i64 0, .slice none 0 0, .int .i64 0, .int .i64 0, .int .i64 0, .slice none 0 0] 39 (0, 0)) := ⟨_, rfl⟩
  obtain ⟨W1, hW1⟩ : ∃ W1, W1 = W0.alloc (.cells #[.bool o, .int .i64 ct, .int .i64 co, .int .i64 cp, .slice auc cd.length cuc, .int .i64 l, .int .i64 lt, .int .i64 la, .slice aul ld.length cul] 37 (0, 0)) := ⟨_, rfl⟩
  have hsz0 : W0.heap.size = w.heap.size + 1 + 1 + 1 := by rw [hW0]; simp
  have hK : Bk W1 w.heap.size 39 (dkC (.slice aub es.length cub) o ct co cp (.slice auc cd.length cuc) l lt la (.slice aul ld.length cul)) := by rw [hW1, hW0]; exact (((Bk.new w _ (dkC _ _ _ _ _ _ _ _ _ _)).alloc _).alloc _).alloc _
  have hK0 : Bk W0 w.heap.size 39 (dkC (.slice aub es.length cub) o ct co cp (.slice auc cd.length cuc) l lt la (.slice aul ld.length cul)) := by rw [hW0]; exact ((Bk.new w _ (dkC _ _ _ _ _ _ _ _ _ _)).alloc _).alloc _
  have HK0 := Lib.hid hK0
  have hC : Bk W1 (w.heap.size + 1) 34 [.int .i64 t, .int .i64 q, .int .i64 p, .slice ax xs.length cx] := by rw [hW1, hW0]; exact ((Bk.newAt _ _ [_, _, _, _] (by simp)).alloc _).alloc _
  have hR : Bk W1 (w.heap.size + 1 + 1) 39 (dkC (.slice none 0 0) false 0 0 0 (.slice none 0 0) 0 0 0 (.slice none 0 0)) := by rw [hW1, hW0]; exact (Bk.newAt _ _ (dkC _ _ _ _ _ _ _ _ _ _) (by simp)).alloc _
  have hY : Bk W1 W0.heap.size 37 (chC o ct co cp (.slice auc cd.length cuc) l lt la (.slice aul ld.length cul)) := by rw [hW1]; exact Bk.new W0 _ (chC _ _ _ _ _ _ _ _ _)
  have hL : Below w.heap.size w W1 := by rw [hW1, hW0]; exact (((low_alloc _ _).alloc (by simp) _).alloc (by simp; omega) _).alloc (by simp; omega) _
  have hsz : W1.heap.size = w.heap.size + 1 + 1 + 1 + 1 := by rw [hW1]; simp [hsz0]
  have hwW : w.heap.size < W0.heap.size := by omega
  have HQ : Hid (∀ W, Below W1.heap.size W1 W → FD W w.heap.size (.slice aub es.length cub) o ct co cp (.slice auc cd.length cuc) l lt la (.slice aul ld.length cul) ∧ (W.cell? ⟨w.heap.size + 1, 0, none⟩ = some (.int .i64 t) ∧ W.cell? ⟨w.heap.size + 1, 1, none⟩ = some (.int .i64 q) ∧ W.cell? ⟨w.heap.size + 1, 2, none⟩ = some (.int .i64 p) ∧ W.cell? ⟨w.heap.size + 1, 3, none⟩ = some (.slice ax xs.length cx)) ∧ FD W (w.heap.size + 1 + 1) (.slice none 0 0) false 0 0 0 (.slice none 0 0) 0 0 0 (.slice none 0 0) ∧ (W.cell? ⟨W0.heap.size, 0, none⟩ = some (.bool o) ∧ W.cell? ⟨W0.heap.size, 1, none⟩ = some (.int .i64 ct) ∧ W.cell? ⟨W0.heap.size, 2, none⟩ = some (.int .i64 co) ∧ W.cell? ⟨W0.heap.size, 3, none⟩ = some (.int .i64 cp) ∧ W.cell? ⟨W0.heap.size, 4, none⟩ = some (.slice auc cd.length cuc) ∧ W.cell? ⟨W0.heap.size, 5, none⟩ = some (.int .i64 l) ∧ W.cell? ⟨W0.heap.size, 6, none⟩ = some (.int .i64 lt) ∧ W.cell? ⟨W0.heap.size, 7, none⟩ = some (.int .i64 la) ∧ W.cell? ⟨W0.heap.size, 8, none⟩ = some (.slice aul ld.length cul))) := fun W hW => by
    have e1 := hK.below hW hK.lt
    have e2 := hC.below hW hC.lt
    have e3 := hR.below hW hR.lt
    have e4 := hY.below hW hY.lt
    exact ⟨e1.fd, ⟨e2.cell 0, e2.cell 1, e2.cell 2, e2.cell 3⟩, e3.fd, e4.cell 0, e4.cell 1, e4.cell 2, e4.cell 3, e4.cell 4, e4.cell 5, e4.cell 6, e4.cell 7, e4.cell 8⟩
  have HV : Hid (∀ W, Below w.heap.size w W → Calls Try.prog 17 #[.agg #[.slice aub es.length cub, .bool o, .int .i64 ct, .int .i64 co, .int .i64 cp, .slice auc cd.length cuc, .int .i64 l, .int .i64 lt, .int .i64 la, .slice aul ld.length cul]] W fun e w' => e = .returned (.bool (Dk.valid (bs, (o, (ct, co, cp, cd), l, (lt, la, ld))))) ∧ Below W.heap.size W w') := fun W hW => dvalid_w o ct co cp l lt la (hd.dr.below hW (Nat.le_refl _))
  have HP : Hid (∀ W, Calls Try.prog 29 #[.int .i64 t] W fun e w' => e = .returned (.bool (Dk.prop t)) ∧ W = w') := fun W => proper_w t W
  have HB : Hid (∀ W, Calls Try.prog 31 #[.int .i64 p] W fun e w' => e = .returned (.bool (Dk.blk p)) ∧ W = w') := fun W => block_w p W
  have HCP : Hid (∀ W (o' : Bool) (ct' co' cp' l' : Int) (uc' : Value) (cd' : List UInt8), Below w.heap.size w W → Sl eb w uc' cd' → cd'.length ≤ 1000 → Calls Try.prog 30 #[.agg #[.slice aub es.length cub, .bool o', .int .i64 ct', .int .i64 co', .int .i64 cp', uc', .int .i64 l', .int .i64 lt, .int .i64 la, .slice aul ld.length cul]] W fun e w' => ∃ ub' uc2 ul', e = .returned (.agg #[ub', .bool o', .int .i64 ct', .int .i64 co', .int .i64 cp', uc2, .int .i64 l', .int .i64 lt, .int .i64 la, ul']) ∧ Dw W.heap.size X w' ub' uc2 ul' es bs cd' ld ∧ Below W.heap.size W w') := fun W o' ct' co' cp' l' uc' cd' hW hs hl => copied_w o' ct' co' cp' l' lt la ⟨hd.r.below hW (Nat.le_refl _), hd.n, fun i h1 h2 => (hd.e i h1 h2).below hW (Nat.le_refl _), hs.below hW (Nat.le_refl _), hd.l.below hW (Nat.le_refl _)⟩ (hE.below hW) hes hl hld
  have HE := Lib.hid hE
  have HR0 := Lib.hid hR
  have HK1 := Lib.hid hK
  have HC1 := Lib.hid hd.c
  have HC2 := Lib.hid hx
  have HC3 : Hid (Sl eb w (.slice none 0 0) ([] : List UInt8)) := Sl.nil _ _
  have HL1 := Lib.hid hcd
  have HL2 := Lib.hid hxs
  have HL := Lib.hid hL
  have HSZ := Lib.hid hsz
  have HSZ0 := Lib.hid hsz0
  clear hd hE hx hes hcd hld hxs hK hK0 hC hR hY hL
  have HW0 := Lib.hid hW0
  have HW1 := Lib.hid hW1
  clear hW0 hW1 hsz hsz0
  subst ho
  rw [hv] at HV
  rw [hp] at HP
  have HVV := Lib.hid hv
  have HPP := Lib.hid hp
  clear hv hp
  have hn : ¬ ct < t := by omega
  rw [give_D HVV.out HPP.out h]
  go_enter Try.func11, Try.ntmps11
  go_upto_region 1 with fail
  rw [← HW0.out]
  obtain ⟨⟨p0, p1, p2, p3, p4, p5, p6, p7, p8, p9⟩, -⟩ := Bk.fd HK0.out
  go_upto_region 5 with fail
  clear p0 p1 p2 p3 p4 p5 p6 p7 p8 p9
  rw [← HW1.out]
  obtain ⟨⟨⟨p0, p1, p2, p3, p4, p5, p6, p7, p8, p9⟩, -⟩, -⟩ := HQ.out _ (low_refl W1)
  go_wp2_with (first | (go_at_call 17; (with_reducible refine (HV.out _ HL.out).mono ?_); rintro e w1 ⟨rfl, hb1⟩; have hl1 := stepAny HL.out hb1; have hs1 : w.heap.size + 1 + 1 + 1 + 1 ≤ w1.heap.size := (by have := hb1.size; have := HSZ.out; omega); have hr1 := HR0.out.below hb1 HR0.out.lt; have hk1 := HK1.out.below hb1 HK1.out.lt; clear p0 p1 p2 p3 p4 p5 p6 p7 p8 p9; obtain ⟨⟨⟨p0, p1, p2, p3, p4, p5, p6, p7, p8, p9⟩, z0, z1, z2, z3, z4, z5, z6, z7, z8, z9⟩, ⟨c0, c1, c2, c3⟩, ⟨⟨r0, r1, r2, r3, r4, r5, r6, r7, r8, r9⟩, g0, g1, g2, g3, g4, g5, g6, g7, g8, g9⟩, y0, y1, y2, y3, y4, y5, y6, y7, y8⟩ := HQ.out w1 hb1) | (go_at_call 29; (with_reducible refine (HP.out _).mono ?_); rintro e w2 ⟨rfl, rfl⟩))
  refine bodyPost_ret (v := .tuple #[.agg #[.slice none 0 0, .bool false, .int .i64 0, .int .i64 0, .int .i64 0, .slice none 0 0, .int .i64 0, .int .i64 0, .int .i64 0, .slice none 0 0], .int .i64 19]) (by simp [results, Try.results11, go_sem, r0, r1, r2, r3, r4, r5, r6, r7, r8, r9]) rfl ⟨_, _, _, _, rfl, Dw.nil, ?_⟩
  exact set10 hl1 (by omega) _ _ _ _ _ _ _ _ _ _

set_option maxRecDepth 100000 in
set_option maxHeartbeats 8000000 in
theorem do_F (o : Bool) (ct co cp l lt la t q p : Int) {ub uc ul ux : Value} {es : List Tr} {bs : List (List UInt8)} {cd ld xs : List UInt8} {w : World} {X : Nat → Prop} (hd : De w ub uc ul es bs cd ld) (hE : Av X (fun W => ∀ i (h : i < es.length) (h' : i < bs.length), Sl eb W (et es[i]) bs[i]) w)
    (hx : Sl eb w ux xs) (hes : es.length ≤ 1000) (hcd : cd.length ≤ 1000) (hld : ld.length ≤ 1000) (hxs : xs.length ≤ 1000) (ho : o = false) (hv : Dk.valid (bs, (o, (ct, co, cp, cd), l, (lt, la, ld))) = true) (hp : Dk.prop t = true) (h : t < lt) :
    Calls Try.prog 11 #[.agg #[ub, .bool o, .int .i64 ct, .int .i64 co, .int .i64 cp, uc, .int .i64 l, .int .i64 lt, .int .i64 la, ul], .agg #[.int .i64 t, .int .i64 q, .int .i64 p, ux]] w (RetDo w X (Dk.give (bs, (o, (ct, co, cp, cd), l, (lt, la, ld))) (t, q, p, xs))) := by
  obtain ⟨aub, cub, hub, -⟩ := id hd.r
  obtain ⟨auc, cuc, huc, -⟩ := id hd.c
  obtain ⟨aul, cul, hul, -⟩ := id hd.l
  obtain ⟨ax, cx, hux, -⟩ := id hx
  subst hub huc hul hux
  obtain ⟨W0, hW0⟩ : ∃ W0, W0 = ((w.alloc (.cells #[.slice aub es.length cub, .bool o, .int .i64 ct, .int .i64 co, .int .i64 cp, .slice auc cd.length cuc, .int .i64 l, .int .i64 lt, .int .i64 la, .slice aul ld.length cul] 39 (0, 0))).alloc (.cells #[.int .i64 t, .int .i64 q, .int .i64 p, .slice ax xs.length cx] 34 (0, 0))).alloc (.cells #[.slice none 0 0, .bool false, .int .i64 0, .int .i64 0, .int .i64 0, .slice none 0 0, .int .i64 0, .int .i64 0, .int .i64 0, .slice none 0 0] 39 (0, 0)) := ⟨_, rfl⟩
  obtain ⟨W1, hW1⟩ : ∃ W1, W1 = W0.alloc (.cells #[.bool o, .int .i64 ct, .int .i64 co, .int .i64 cp, .slice auc cd.length cuc, .int .i64 l, .int .i64 lt, .int .i64 la, .slice aul ld.length cul] 37 (0, 0)) := ⟨_, rfl⟩
  have hsz0 : W0.heap.size = w.heap.size + 1 + 1 + 1 := by rw [hW0]; simp
  have hK : Bk W1 w.heap.size 39 (dkC (.slice aub es.length cub) o ct co cp (.slice auc cd.length cuc) l lt la (.slice aul ld.length cul)) := by rw [hW1, hW0]; exact (((Bk.new w _ (dkC _ _ _ _ _ _ _ _ _ _)).alloc _).alloc _).alloc _
  have hK0 : Bk W0 w.heap.size 39 (dkC (.slice aub es.length cub) o ct co cp (.slice auc cd.length cuc) l lt la (.slice aul ld.length cul)) := by rw [hW0]; exact ((Bk.new w _ (dkC _ _ _ _ _ _ _ _ _ _)).alloc _).alloc _
  have HK0 := Lib.hid hK0
  have hC : Bk W1 (w.heap.size + 1) 34 [.int .i64 t, .int .i64 q, .int .i64 p, .slice ax xs.length cx] := by rw [hW1, hW0]; exact ((Bk.newAt _ _ [_, _, _, _] (by simp)).alloc _).alloc _
  have hR : Bk W1 (w.heap.size + 1 + 1) 39 (dkC (.slice none 0 0) false 0 0 0 (.slice none 0 0) 0 0 0 (.slice none 0 0)) := by rw [hW1, hW0]; exact (Bk.newAt _ _ (dkC _ _ _ _ _ _ _ _ _ _) (by simp)).alloc _
  have hY : Bk W1 W0.heap.size 37 (chC o ct co cp (.slice auc cd.length cuc) l lt la (.slice aul ld.length cul)) := by rw [hW1]; exact Bk.new W0 _ (chC _ _ _ _ _ _ _ _ _)
  have hL : Below w.heap.size w W1 := by rw [hW1, hW0]; exact (((low_alloc _ _).alloc (by simp) _).alloc (by simp; omega) _).alloc (by simp; omega) _
  have hsz : W1.heap.size = w.heap.size + 1 + 1 + 1 + 1 := by rw [hW1]; simp [hsz0]
  have hwW : w.heap.size < W0.heap.size := by omega
  have HQ : Hid (∀ W, Below W1.heap.size W1 W → FD W w.heap.size (.slice aub es.length cub) o ct co cp (.slice auc cd.length cuc) l lt la (.slice aul ld.length cul) ∧ (W.cell? ⟨w.heap.size + 1, 0, none⟩ = some (.int .i64 t) ∧ W.cell? ⟨w.heap.size + 1, 1, none⟩ = some (.int .i64 q) ∧ W.cell? ⟨w.heap.size + 1, 2, none⟩ = some (.int .i64 p) ∧ W.cell? ⟨w.heap.size + 1, 3, none⟩ = some (.slice ax xs.length cx)) ∧ FD W (w.heap.size + 1 + 1) (.slice none 0 0) false 0 0 0 (.slice none 0 0) 0 0 0 (.slice none 0 0) ∧ (W.cell? ⟨W0.heap.size, 0, none⟩ = some (.bool o) ∧ W.cell? ⟨W0.heap.size, 1, none⟩ = some (.int .i64 ct) ∧ W.cell? ⟨W0.heap.size, 2, none⟩ = some (.int .i64 co) ∧ W.cell? ⟨W0.heap.size, 3, none⟩ = some (.int .i64 cp) ∧ W.cell? ⟨W0.heap.size, 4, none⟩ = some (.slice auc cd.length cuc) ∧ W.cell? ⟨W0.heap.size, 5, none⟩ = some (.int .i64 l) ∧ W.cell? ⟨W0.heap.size, 6, none⟩ = some (.int .i64 lt) ∧ W.cell? ⟨W0.heap.size, 7, none⟩ = some (.int .i64 la) ∧ W.cell? ⟨W0.heap.size, 8, none⟩ = some (.slice aul ld.length cul))) := fun W hW => by
    have e1 := hK.below hW hK.lt
    have e2 := hC.below hW hC.lt
    have e3 := hR.below hW hR.lt
    have e4 := hY.below hW hY.lt
    exact ⟨e1.fd, ⟨e2.cell 0, e2.cell 1, e2.cell 2, e2.cell 3⟩, e3.fd, e4.cell 0, e4.cell 1, e4.cell 2, e4.cell 3, e4.cell 4, e4.cell 5, e4.cell 6, e4.cell 7, e4.cell 8⟩
  have HV : Hid (∀ W, Below w.heap.size w W → Calls Try.prog 17 #[.agg #[.slice aub es.length cub, .bool o, .int .i64 ct, .int .i64 co, .int .i64 cp, .slice auc cd.length cuc, .int .i64 l, .int .i64 lt, .int .i64 la, .slice aul ld.length cul]] W fun e w' => e = .returned (.bool (Dk.valid (bs, (o, (ct, co, cp, cd), l, (lt, la, ld))))) ∧ Below W.heap.size W w') := fun W hW => dvalid_w o ct co cp l lt la (hd.dr.below hW (Nat.le_refl _))
  have HP : Hid (∀ W, Calls Try.prog 29 #[.int .i64 t] W fun e w' => e = .returned (.bool (Dk.prop t)) ∧ W = w') := fun W => proper_w t W
  have HB : Hid (∀ W, Calls Try.prog 31 #[.int .i64 p] W fun e w' => e = .returned (.bool (Dk.blk p)) ∧ W = w') := fun W => block_w p W
  have HCP : Hid (∀ W (o' : Bool) (ct' co' cp' l' : Int) (uc' : Value) (cd' : List UInt8), Below w.heap.size w W → Sl eb w uc' cd' → cd'.length ≤ 1000 → Calls Try.prog 30 #[.agg #[.slice aub es.length cub, .bool o', .int .i64 ct', .int .i64 co', .int .i64 cp', uc', .int .i64 l', .int .i64 lt, .int .i64 la, .slice aul ld.length cul]] W fun e w' => ∃ ub' uc2 ul', e = .returned (.agg #[ub', .bool o', .int .i64 ct', .int .i64 co', .int .i64 cp', uc2, .int .i64 l', .int .i64 lt, .int .i64 la, ul']) ∧ Dw W.heap.size X w' ub' uc2 ul' es bs cd' ld ∧ Below W.heap.size W w') := fun W o' ct' co' cp' l' uc' cd' hW hs hl => copied_w o' ct' co' cp' l' lt la ⟨hd.r.below hW (Nat.le_refl _), hd.n, fun i h1 h2 => (hd.e i h1 h2).below hW (Nat.le_refl _), hs.below hW (Nat.le_refl _), hd.l.below hW (Nat.le_refl _)⟩ (hE.below hW) hes hl hld
  have HE := Lib.hid hE
  have HR0 := Lib.hid hR
  have HK1 := Lib.hid hK
  have HC1 := Lib.hid hd.c
  have HC2 := Lib.hid hx
  have HC3 : Hid (Sl eb w (.slice none 0 0) ([] : List UInt8)) := Sl.nil _ _
  have HL1 := Lib.hid hcd
  have HL2 := Lib.hid hxs
  have HL := Lib.hid hL
  have HSZ := Lib.hid hsz
  have HSZ0 := Lib.hid hsz0
  clear hd hE hx hes hcd hld hxs hK hK0 hC hR hY hL
  have HW0 := Lib.hid hW0
  have HW1 := Lib.hid hW1
  clear hW0 hW1 hsz hsz0
  subst ho
  rw [hv] at HV
  rw [hp] at HP
  have HVV := Lib.hid hv
  have HPP := Lib.hid hp
  clear hv hp
  rw [give_F HVV.out HPP.out h]
  go_enter Try.func11, Try.ntmps11
  go_upto_region 1 with fail
  rw [← HW0.out]
  obtain ⟨⟨p0, p1, p2, p3, p4, p5, p6, p7, p8, p9⟩, -⟩ := Bk.fd HK0.out
  go_upto_region 5 with fail
  clear p0 p1 p2 p3 p4 p5 p6 p7 p8 p9
  rw [← HW1.out]
  obtain ⟨⟨⟨p0, p1, p2, p3, p4, p5, p6, p7, p8, p9⟩, -⟩, -⟩ := HQ.out _ (low_refl W1)
  go_wp2_with (first | (go_at_call 17; (with_reducible refine (HV.out _ HL.out).mono ?_); rintro e w1 ⟨rfl, hb1⟩; have hl1 := stepAny HL.out hb1; have hs1 : w.heap.size + 1 + 1 + 1 + 1 ≤ w1.heap.size := (by have := hb1.size; have := HSZ.out; omega); have hr1 := HR0.out.below hb1 HR0.out.lt; have hk1 := HK1.out.below hb1 HK1.out.lt; clear p0 p1 p2 p3 p4 p5 p6 p7 p8 p9; obtain ⟨⟨⟨p0, p1, p2, p3, p4, p5, p6, p7, p8, p9⟩, z0, z1, z2, z3, z4, z5, z6, z7, z8, z9⟩, ⟨c0, c1, c2, c3⟩, ⟨⟨r0, r1, r2, r3, r4, r5, r6, r7, r8, r9⟩, g0, g1, g2, g3, g4, g5, g6, g7, g8, g9⟩, y0, y1, y2, y3, y4, y5, y6, y7, y8⟩ := HQ.out w1 hb1) | (go_at_call 29; (with_reducible refine (HP.out _).mono ?_); rintro e w2 ⟨rfl, rfl⟩))
  refine bodyPost_ret (v := .tuple #[.agg #[.slice none 0 0, .bool false, .int .i64 0, .int .i64 0, .int .i64 0, .slice none 0 0, .int .i64 0, .int .i64 0, .int .i64 0, .slice none 0 0], .int .i64 19]) (by simp [results, Try.results11, go_sem, r0, r1, r2, r3, r4, r5, r6, r7, r8, r9]) rfl ⟨_, _, _, _, rfl, Dw.nil, ?_⟩
  exact set10 hl1 (by omega) _ _ _ _ _ _ _ _ _ _
end Go.Proofs.Yteeoonoccklhmaa
