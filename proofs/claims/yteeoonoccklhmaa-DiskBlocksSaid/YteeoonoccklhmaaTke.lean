/-
  The walk of Tick of disk, an answer (printed by gen/mk11tick.py).
-/
import Derived.Test.YteeoonoccklhmaaTkd
namespace Go.Proofs.Yteeoonoccklhmaa
open Go.RowKit

theorem an_len {bs bs4 : List (List UInt8)} {t q p t4 an : Int} {xs dd : List UInt8} (h : Dk.answer bs (t, q, p, xs) = ((t4, an, dd), bs4)) (hb : ∀ b ∈ bs, b.length = 128) : dd.length ≤ 1000 := by
  have hg : ∀ k, (bs.getD k []).length ≤ 128 := fun k => by
    by_cases hk : k < bs.length
    · have := hb _ (List.getElem_mem hk)
      simp [List.getD, hk, this]
    · simp [List.getD, hk]
  unfold Dk.answer at h
  simp only at h
  split at h
  · injection h with h1 _; injection h1 with _ h1; injection h1 with _ h1; subst h1; simp
  · split at h
    · injection h with h1 _; injection h1 with _ h1; injection h1 with _ h1; subst h1; simp
    · split at h
      · injection h with h1 _; injection h1 with _ h1; injection h1 with _ h1; subst h1; have := hg p.toNat; omega
      · injection h with h1 _; injection h1 with _ h1; injection h1 with _ h1; subst h1; simp

set_option maxRecDepth 100000 in
set_option maxHeartbeats 8000000 in
theorem tick_E_w (o : Bool) (ct co cp l lt la : Int) {ub uc ul : Value} {es : List Tr} {bs : List (List UInt8)} {cd ld : List UInt8} {w : World} {X : Nat → Prop} (hd : De w ub uc ul es bs cd ld) (hE : Av X (fun W => ∀ i (h : i < es.length) (h' : i < bs.length), Sl eb W (et es[i]) bs[i]) w)
    (hes : es.length ≤ 1000) (hcd : cd.length ≤ 1000) (hld : ld.length ≤ 1000) (hv : Dk.valid (bs, (o, (ct, co, cp, cd), l, (lt, la, ld))) = true) (ho : o = true) (h : l = 1) (he : ct ≠ lt) (hX : ∀ b, X b → b < w.heap.size) :
    Calls Try.prog 20 #[.agg #[ub, .bool o, .int .i64 ct, .int .i64 co, .int .i64 cp, uc, .int .i64 l, .int .i64 lt, .int .i64 la, ul]] w (RetTk w X (Dk.tick (bs, (o, (ct, co, cp, cd), l, (lt, la, ld))))) := by
  obtain ⟨aub, cub, hub, -⟩ := id hd.r
  obtain ⟨auc, cuc, huc, -⟩ := id hd.c
  obtain ⟨aul, cul, hul, -⟩ := id hd.l
  subst hub huc hul
  obtain ⟨W0, hW0⟩ : ∃ W0, W0 = (w.alloc (.cells #[.slice aub es.length cub, .bool o, .int .i64 ct, .int .i64 co, .int .i64 cp, .slice auc cd.length cuc, .int .i64 l, .int .i64 lt, .int .i64 la, .slice aul ld.length cul] 39 (0, 0))).alloc (.cells #[.slice none 0 0, .bool false, .int .i64 0, .int .i64 0, .int .i64 0, .slice none 0 0, .int .i64 0, .int .i64 0, .int .i64 0, .slice none 0 0] 39 (0, 0)) := ⟨_, rfl⟩
  have hsz0 : W0.heap.size = w.heap.size + 1 + 1 := by rw [hW0]; simp
  have hK : Bk W0 w.heap.size 39 (dkC (.slice aub es.length cub) (o) (ct) (co) (cp) (.slice auc cd.length cuc) (l) (lt) (la) (.slice aul ld.length cul)) := by rw [hW0]; exact (Bk.new w _ (dkC _ _ _ _ _ _ _ _ _ _)).alloc _
  have hR : Bk W0 (w.heap.size + 1) 39 (dkC (.slice none 0 0) (false) (0) (0) (0) (.slice none 0 0) (0) (0) (0) (.slice none 0 0)) := by rw [hW0]; exact Bk.newAt _ _ (dkC _ _ _ _ _ _ _ _ _ _) (by simp)
  have hL : Below w.heap.size w W0 := by rw [hW0]; exact (low_alloc _ _).alloc (by simp) _
  have HV : Hid (∀ W, Below w.heap.size w W → Calls Try.prog 17 #[.agg #[.slice aub es.length cub, .bool o, .int .i64 ct, .int .i64 co, .int .i64 cp, .slice auc cd.length cuc, .int .i64 l, .int .i64 lt, .int .i64 la, .slice aul ld.length cul]] W fun e w' => e = .returned (.bool (Dk.valid (bs, (o, (ct, co, cp, cd), l, (lt, la, ld))))) ∧ Below W.heap.size W w') := fun W hW => dvalid_w o ct co cp l lt la (hd.dr.below hW (Nat.le_refl _))
  have HCP : Hid (∀ W, Below w.heap.size w W → Calls Try.prog 30 #[.agg #[.slice aub es.length cub, .bool o, .int .i64 ct, .int .i64 co, .int .i64 cp, .slice auc cd.length cuc, .int .i64 l, .int .i64 lt, .int .i64 la, .slice aul ld.length cul]] W fun e w' => ∃ ub' uc' ul', e = .returned (.agg #[ub', .bool o, .int .i64 ct, .int .i64 co, .int .i64 cp, uc', .int .i64 l, .int .i64 lt, .int .i64 la, ul']) ∧ Dw W.heap.size X w' ub' uc' ul' es bs cd ld ∧ Below W.heap.size W w') := fun W hW => copied_w o ct co cp l lt la (hd.below hW (Nat.le_refl _)) (hE.below hW) hes hcd hld
  have HE := Lib.hid hE
  have HN := Lib.hid hd.n
  have HL := Lib.hid hL
  have HR := Lib.hid hR
  have HK := Lib.hid hK
  have HSZ := Lib.hid hsz0
  have HCD := Lib.hid hcd
  have HLD := Lib.hid hld
  clear hd hE hes hcd hld hK hR hL hsz0
  have HW0 := Lib.hid hW0
  clear hW0
  rw [hv] at HV
  have HVV := Lib.hid hv
  clear hv
  subst ho h
  rw [tick_E HVV.out (by omega) he]
  have hne : (ct != lt) = true := by simpa using he
  clear he
  obtain ⟨⟨t4, an, dd⟩, bs4, hans⟩ : ∃ (a : Dk.An) (b : List (List UInt8)), Dk.answer bs (ct, co, cp, cd) = (a, b) := ⟨_, _, rfl⟩
  rw [hans]
  have HDD : Hid (dd.length ≤ 1000) := an_len hans (valid_parts HVV.out).2.1
  have HAN := Lib.hid hans
  clear hans
  go_enter Try.func20, Try.ntmps20
  go_upto_region 1 with fail
  rw [← HW0.out]
  obtain ⟨⟨p0, p1, p2, p3, p4, p5, p6, p7, p8, p9⟩, -⟩ := Bk.fd HK.out
  go_upto_region 5 with (first | (go_at_call 17; (with_reducible refine (HV.out _ HL.out).mono ?_); rintro e w1 ⟨rfl, hb1⟩; have hl1 := stepAny HL.out hb1; clear p0 p1 p2 p3 p4 p5 p6 p7 p8 p9; obtain ⟨⟨p0, p1, p2, p3, p4, p5, p6, p7, p8, p9⟩, g0, g1, g2, g3, g4, g5, g6, g7, g8, g9⟩ := Bk.fd (HK.out.below hb1 HK.out.lt); obtain ⟨⟨r0, r1, r2, r3, r4, r5, r6, r7, r8, r9⟩, z0, z1, z2, z3, z4, z5, z6, z7, z8, z9⟩ := Bk.fd (HR.out.below hb1 HR.out.lt)) | (go_at_call 30; (with_reducible refine (HCP.out _ hl1).mono ?_); rintro e w2 ⟨v1, v2, v3, rfl, hdw, hb2⟩; obtain ⟨a1, k1, rfl⟩ := own_slice hdw.r; obtain ⟨a2, k2, rfl⟩ := own_slice hdw.c; obtain ⟨a3, k3, rfl⟩ := own_slice hdw.l; clear p0 p1 p2 p3 p4 p5 p6 p7 p8 p9 g0 g1 g2 g3 g4 g5 g6 g7 g8 g9; obtain ⟨⟨p0, p1, p2, p3, p4, p5, p6, p7, p8, p9⟩, g0, g1, g2, g3, g4, g5, g6, g7, g8, g9⟩ := Bk.fd ((HK.out.below hb1 HK.out.lt).below hb2 (HK.out.below hb1 HK.out.lt).lt)))
  have hs := HSZ.out
  have hs1 : w.heap.size + 1 + 1 ≤ w1.heap.size := by have := hb1.size; omega
  have hl2 := stepAny hl1 hb2
  have hk3 : Bk ((((((((((w2.setCell ⟨w.heap.size, 0, none⟩ (.slice a1 es.length k1)).setCell ⟨w.heap.size, 1, none⟩ (.bool true)).setCell ⟨w.heap.size, 2, none⟩ (.int .i64 ct)).setCell ⟨w.heap.size, 3, none⟩ (.int .i64 co)).setCell ⟨w.heap.size, 4, none⟩ (.int .i64 cp)).setCell ⟨w.heap.size, 5, none⟩ (.slice a2 cd.length k2)).setCell ⟨w.heap.size, 6, none⟩ (.int .i64 1)).setCell ⟨w.heap.size, 7, none⟩ (.int .i64 lt)).setCell ⟨w.heap.size, 8, none⟩ (.int .i64 la)).setCell ⟨w.heap.size, 9, none⟩ (.slice a3 ld.length k3)) w.heap.size 39 (dkC (.slice a1 es.length k1) (true) (ct) (co) (cp) (.slice a2 cd.length k2) (1) (lt) (la) (.slice a3 ld.length k3)) := ((HK.out.below hb1 HK.out.lt).below hb2 (HK.out.below hb1 HK.out.lt).lt).set10 (.slice a1 es.length k1) (.bool true) (.int .i64 ct) (.int .i64 co) (.int .i64 cp) (.slice a2 cd.length k2) (.int .i64 1) (.int .i64 lt) (.int .i64 la) (.slice a3 ld.length k3)
  have hr3 : Bk ((((((((((w2.setCell ⟨w.heap.size, 0, none⟩ (.slice a1 es.length k1)).setCell ⟨w.heap.size, 1, none⟩ (.bool true)).setCell ⟨w.heap.size, 2, none⟩ (.int .i64 ct)).setCell ⟨w.heap.size, 3, none⟩ (.int .i64 co)).setCell ⟨w.heap.size, 4, none⟩ (.int .i64 cp)).setCell ⟨w.heap.size, 5, none⟩ (.slice a2 cd.length k2)).setCell ⟨w.heap.size, 6, none⟩ (.int .i64 1)).setCell ⟨w.heap.size, 7, none⟩ (.int .i64 lt)).setCell ⟨w.heap.size, 8, none⟩ (.int .i64 la)).setCell ⟨w.heap.size, 9, none⟩ (.slice a3 ld.length k3)) (w.heap.size + 1) 39 (dkC (.slice none 0 0) (false) (0) (0) (0) (.slice none 0 0) (0) (0) (0) (.slice none 0 0)) := ((HR.out.below hb1 HR.out.lt).below hb2 (HR.out.below hb1 HR.out.lt).lt).keep (set10_heap (W := w2) (b := w.heap.size) (by omega) (.slice a1 es.length k1) (.bool true) (.int .i64 ct) (.int .i64 co) (.int .i64 cp) (.slice a2 cd.length k2) (.int .i64 1) (.int .i64 lt) (.int .i64 la) (.slice a3 ld.length k3))
  have hl3 : Below w.heap.size w ((((((((((w2.setCell ⟨w.heap.size, 0, none⟩ (.slice a1 es.length k1)).setCell ⟨w.heap.size, 1, none⟩ (.bool true)).setCell ⟨w.heap.size, 2, none⟩ (.int .i64 ct)).setCell ⟨w.heap.size, 3, none⟩ (.int .i64 co)).setCell ⟨w.heap.size, 4, none⟩ (.int .i64 cp)).setCell ⟨w.heap.size, 5, none⟩ (.slice a2 cd.length k2)).setCell ⟨w.heap.size, 6, none⟩ (.int .i64 1)).setCell ⟨w.heap.size, 7, none⟩ (.int .i64 lt)).setCell ⟨w.heap.size, 8, none⟩ (.int .i64 la)).setCell ⟨w.heap.size, 9, none⟩ (.slice a3 ld.length k3)) := set10 hl2 (Nat.le_refl _) (.slice a1 es.length k1) (.bool true) (.int .i64 ct) (.int .i64 co) (.int .i64 cp) (.slice a2 cd.length k2) (.int .i64 1) (.int .i64 lt) (.int .i64 la) (.slice a3 ld.length k3)
  have hd3 : Dw (w.heap.size + 1 + 1) X ((((((((((w2.setCell ⟨w.heap.size, 0, none⟩ (.slice a1 es.length k1)).setCell ⟨w.heap.size, 1, none⟩ (.bool true)).setCell ⟨w.heap.size, 2, none⟩ (.int .i64 ct)).setCell ⟨w.heap.size, 3, none⟩ (.int .i64 co)).setCell ⟨w.heap.size, 4, none⟩ (.int .i64 cp)).setCell ⟨w.heap.size, 5, none⟩ (.slice a2 cd.length k2)).setCell ⟨w.heap.size, 6, none⟩ (.int .i64 1)).setCell ⟨w.heap.size, 7, none⟩ (.int .i64 lt)).setCell ⟨w.heap.size, 8, none⟩ (.int .i64 la)).setCell ⟨w.heap.size, 9, none⟩ (.slice a3 ld.length k3)) (.slice a1 es.length k1) (.slice a2 cd.length k2) (.slice a3 ld.length k3) es bs cd ld := (hdw.down hs1).turn (fun k h1 _ => set10_heap (W := w2) (b := w.heap.size) (by omega) (.slice a1 es.length k1) (.bool true) (.int .i64 ct) (.int .i64 co) (.int .i64 cp) (.slice a2 cd.length k2) (.int .i64 1) (.int .i64 lt) (.int .i64 la) (.slice a3 ld.length k3)) (HE.out.below hl3)
  clear p0 p1 p2 p3 p4 p5 p6 p7 p8 p9 g0 g1 g2 g3 g4 g5 g6 g7 g8 g9 r0 r1 r2 r3 r4 r5 r6 r7 r8 r9 z0 z1 z2 z3 z4 z5 z6 z7 z8 z9 hdw hb1 hb2 hl1 hl2 hs1
  generalize ((((((((((w2.setCell ⟨w.heap.size, 0, none⟩ (.slice a1 es.length k1)).setCell ⟨w.heap.size, 1, none⟩ (.bool true)).setCell ⟨w.heap.size, 2, none⟩ (.int .i64 ct)).setCell ⟨w.heap.size, 3, none⟩ (.int .i64 co)).setCell ⟨w.heap.size, 4, none⟩ (.int .i64 cp)).setCell ⟨w.heap.size, 5, none⟩ (.slice a2 cd.length k2)).setCell ⟨w.heap.size, 6, none⟩ (.int .i64 1)).setCell ⟨w.heap.size, 7, none⟩ (.int .i64 lt)).setCell ⟨w.heap.size, 8, none⟩ (.int .i64 la)).setCell ⟨w.heap.size, 9, none⟩ (.slice a3 ld.length k3)) = W3 at *
  obtain ⟨⟨p0, p1, p2, p3, p4, p5, p6, p7, p8, p9⟩, g0, g1, g2, g3, g4, g5, g6, g7, g8, g9⟩ := Bk.fd hk3
  obtain ⟨⟨r0, r1, r2, r3, r4, r5, r6, r7, r8, r9⟩, z0, z1, z2, z3, z4, z5, z6, z7, z8, z9⟩ := Bk.fd hr3
  have hw3 := hd3.rw' cd
  clear hd3
  go_upto_region 10 with fail
  have hk4 : Bk (W3.setCell ⟨w.heap.size, 6, none⟩ (.int .i64 0)) w.heap.size 39 (dkC (.slice a1 es.length k1) (true) (ct) (co) (cp) (.slice a2 cd.length k2) (0) (lt) (la) (.slice a3 ld.length k3)) := (hk3.set 6 (.int .i64 0))
  have hr4 : Bk (W3.setCell ⟨w.heap.size, 6, none⟩ (.int .i64 0)) (w.heap.size + 1) 39 (dkC (.slice none 0 0) (false) (0) (0) (0) (.slice none 0 0) (0) (0) (0) (.slice none 0 0)) := (hr3.far (p := ⟨w.heap.size, 6, none⟩) (by show w.heap.size + 1 ≠ w.heap.size; omega) (.int .i64 0))
  have hl4 : Below w.heap.size w (W3.setCell ⟨w.heap.size, 6, none⟩ (.int .i64 0)) := (hl3.setCell (p := ⟨w.heap.size, 6, none⟩) (Nat.le_refl _) (.int .i64 0))
  have hw4 : Rw (w.heap.size + 1 + 1) (W3.setCell ⟨w.heap.size, 6, none⟩ (.int .i64 0)) (.slice a1 es.length k1) (.slice a2 cd.length k2) (.slice a3 ld.length k3) es es bs bs cd cd ld := hw3.turn (fun k h1 _ => by rw [Below.heap_setCell _ _ _ k (by show k ≠ w.heap.size; omega)])
  clear p0 p1 p2 p3 p4 p5 p6 p7 p8 p9 g0 g1 g2 g3 g4 g5 g6 g7 g8 g9 r0 r1 r2 r3 r4 r5 r6 r7 r8 r9 z0 z1 z2 z3 z4 z5 z6 z7 z8 z9 hk3 hr3 hl3 hw3
  generalize (W3.setCell ⟨w.heap.size, 6, none⟩ (.int .i64 0)) = W4 at *
  obtain ⟨⟨p0, p1, p2, p3, p4, p5, p6, p7, p8, p9⟩, g0, g1, g2, g3, g4, g5, g6, g7, g8, g9⟩ := Bk.fd hk4
  obtain ⟨⟨r0, r1, r2, r3, r4, r5, r6, r7, r8, r9⟩, z0, z1, z2, z3, z4, z5, z6, z7, z8, z9⟩ := Bk.fd hr4
  go_quiet (fail)
  have hk5 : Bk (W4.drewN nq) w.heap.size 39 (dkC (.slice a1 es.length k1) (true) (ct) (co) (cp) (.slice a2 cd.length k2) (0) (lt) (la) (.slice a3 ld.length k3)) := hk4
  have hr5 : Bk (W4.drewN nq) (w.heap.size + 1) 39 (dkC (.slice none 0 0) (false) (0) (0) (0) (.slice none 0 0) (0) (0) (0) (.slice none 0 0)) := hr4
  have hl5 : Below w.heap.size w (W4.drewN nq) := ⟨hl4.os, hl4.tape, hl4.output, hl4.size, hl4.block⟩
  have hw5 : Rw (w.heap.size + 1 + 1) (W4.drewN nq) (.slice a1 es.length k1) (.slice a2 cd.length k2) (.slice a3 ld.length k3) es es bs bs cd cd ld := hw4.turn (fun _ _ _ => rfl)
  clear p0 p1 p2 p3 p4 p5 p6 p7 p8 p9 g0 g1 g2 g3 g4 g5 g6 g7 g8 g9 r0 r1 r2 r3 r4 r5 r6 r7 r8 r9 z0 z1 z2 z3 z4 z5 z6 z7 z8 z9 hk4 hr4 hl4 hw4
  generalize W4.drewN nq = W5 at *
  obtain ⟨⟨p0, p1, p2, p3, p4, p5, p6, p7, p8, p9⟩, g0, g1, g2, g3, g4, g5, g6, g7, g8, g9⟩ := Bk.fd hk5
  obtain ⟨⟨r0, r1, r2, r3, r4, r5, r6, r7, r8, r9⟩, z0, z1, z2, z3, z4, z5, z6, z7, z8, z9⟩ := Bk.fd hr5
  go_upto_region 11 with fail
  have hlz := low_drew W5
  have HANS : Hid (Calls Try.prog 44 #[.agg #[.slice a1 es.length k1, .bool true, .int .i64 ct, .int .i64 co, .int .i64 cp, .slice a2 cd.length k2, .int .i64 0, .int .i64 lt, .int .i64 la, .slice a3 ld.length k3], .agg #[.int .i64 ct, .int .i64 co, .int .i64 cp, .slice a2 cd.length k2]] W5.drew (RetAn (w.heap.size + 1 + 1) W5.drew (.slice a1 es.length k1) es bs cd (Dk.answer bs (ct, co, cp, cd)))) :=
    answer_w (w.heap.size + 1 + 1) true ct co cp 0 lt la ct co cp (by have := hr5.lt; show w.heap.size + 1 + 1 ≤ W5.heap.size; omega) (own_drew hw5.r) HN.out (fun i h1 h2 => ((HE.out.below hl5).here i h1 h2).below (low_drew W5) (Nat.le_refl _)) ((Sl.ofOwn hw5.c).below (low_drew W5) (Nat.le_refl _)) (valid_parts HVV.out).1 (by have := HCD.out; omega) (fun i h => by have := (valid_parts HVV.out).2.1 _ (List.getElem_mem h); omega)
  rw [HAN.out] at HANS
  go_region_with ((go_at_call 44; (with_reducible refine HANS.out.mono ?_); rintro e wA ⟨v4, es4, rfl, ho4, hor, hgr, hx4⟩; obtain ⟨a5, k5, rfl⟩ := own_slice ho4; have hkA := (Bk.drew' hk5).grown hgr (by intro e; have := (hw5.r.lt _ e).1; omega); have hrA := (Bk.drew' hr5).grown hgr (by intro e; have := (hw5.r.lt _ e).1; omega); clear p0 p1 p2 p3 p4 p5 p6 p7 p8 p9 g0 g1 g2 g3 g4 g5 g6 g7 g8 g9 r0 r1 r2 r3 r4 r5 r6 r7 r8 r9 z0 z1 z2 z3 z4 z5 z6 z7 z8 z9; obtain ⟨⟨p0, p1, p2, p3, p4, p5, p6, p7, p8, p9⟩, g0, g1, g2, g3, g4, g5, g6, g7, g8, g9⟩ := Bk.fd hkA))
  all_goals
    have hb5 := hr5.lt
    have hl51 : Below w.heap.size w wA := (hl5.drew).grown hgr hl5.size (fun k e => by have := (hw5.r.lt k e).1; omega)
    have hk51 := hkA
    have hr51 := hrA
    have hw51 : Rw (w.heap.size + 1 + 1) wA (.slice a1 es.length k1) (.slice none 0 0) (.slice a5 dd.length k5) es4 es bs4 bs cd [] dd := ⟨hor, World.ownsRow_nil _ _ _ _, own_down ho4 (by show w.heap.size + 1 + 1 ≤ W5.heap.size; omega), hx4.imp id fun ⟨i, tr, h1, h2, h3, h4⟩ => ⟨i, tr, h1, h2, h3, own_down h4 (by show w.heap.size + 1 + 1 ≤ W5.heap.size; omega)⟩⟩
    obtain ⟨⟨r0, r1, r2, r3, r4, r5, r6, r7, r8, r9⟩, z0, z1, z2, z3, z4, z5, z6, z7, z8, z9⟩ := Bk.fd hrA
    clear hk5 hr5 hl5 hw5 hkA hrA ho4 hor hgr hx4 HANS hlz
    have hk52 : Bk (((wA.setCell ⟨w.heap.size, 7, none⟩ (.int .i64 t4)).setCell ⟨w.heap.size, 8, none⟩ (.int .i64 an)).setCell ⟨w.heap.size, 9, none⟩ (.slice a5 dd.length k5)) w.heap.size 39 (dkC (.slice a1 es.length k1) (true) (ct) (co) (cp) (.slice a2 cd.length k2) (0) (t4) (an) (.slice a5 dd.length k5)) := (((hk51.set 7 (.int .i64 t4)).set 8 (.int .i64 an)).set 9 (.slice a5 dd.length k5))
    have hr52 : Bk (((wA.setCell ⟨w.heap.size, 7, none⟩ (.int .i64 t4)).setCell ⟨w.heap.size, 8, none⟩ (.int .i64 an)).setCell ⟨w.heap.size, 9, none⟩ (.slice a5 dd.length k5)) (w.heap.size + 1) 39 (dkC (.slice none 0 0) (false) (0) (0) (0) (.slice none 0 0) (0) (0) (0) (.slice none 0 0)) := (((hr51.far (p := ⟨w.heap.size, 7, none⟩) (by show w.heap.size + 1 ≠ w.heap.size; omega) (.int .i64 t4)).far (p := ⟨w.heap.size, 8, none⟩) (by show w.heap.size + 1 ≠ w.heap.size; omega) (.int .i64 an)).far (p := ⟨w.heap.size, 9, none⟩) (by show w.heap.size + 1 ≠ w.heap.size; omega) (.slice a5 dd.length k5))
    have hl52 : Below w.heap.size w (((wA.setCell ⟨w.heap.size, 7, none⟩ (.int .i64 t4)).setCell ⟨w.heap.size, 8, none⟩ (.int .i64 an)).setCell ⟨w.heap.size, 9, none⟩ (.slice a5 dd.length k5)) := (((hl51.setCell (p := ⟨w.heap.size, 7, none⟩) (Nat.le_refl _) (.int .i64 t4)).setCell (p := ⟨w.heap.size, 8, none⟩) (Nat.le_refl _) (.int .i64 an)).setCell (p := ⟨w.heap.size, 9, none⟩) (Nat.le_refl _) (.slice a5 dd.length k5))
    have hw52 : Rw (w.heap.size + 1 + 1) (((wA.setCell ⟨w.heap.size, 7, none⟩ (.int .i64 t4)).setCell ⟨w.heap.size, 8, none⟩ (.int .i64 an)).setCell ⟨w.heap.size, 9, none⟩ (.slice a5 dd.length k5)) (.slice a1 es.length k1) (.slice none 0 0) (.slice a5 dd.length k5) es4 es bs4 bs cd [] dd := hw51.turn (fun k h1 _ => by rw [Below.heap_setCell _ _ _ k (by show k ≠ w.heap.size; omega), Below.heap_setCell _ _ _ k (by show k ≠ w.heap.size; omega), Below.heap_setCell _ _ _ k (by show k ≠ w.heap.size; omega)])
    clear p0 p1 p2 p3 p4 p5 p6 p7 p8 p9 g0 g1 g2 g3 g4 g5 g6 g7 g8 g9 r0 r1 r2 r3 r4 r5 r6 r7 r8 r9 z0 z1 z2 z3 z4 z5 z6 z7 z8 z9 hk51 hr51 hl51 hw51
    generalize (((wA.setCell ⟨w.heap.size, 7, none⟩ (.int .i64 t4)).setCell ⟨w.heap.size, 8, none⟩ (.int .i64 an)).setCell ⟨w.heap.size, 9, none⟩ (.slice a5 dd.length k5)) = W52 at *
    obtain ⟨⟨p0, p1, p2, p3, p4, p5, p6, p7, p8, p9⟩, g0, g1, g2, g3, g4, g5, g6, g7, g8, g9⟩ := Bk.fd hk52
    obtain ⟨⟨r0, r1, r2, r3, r4, r5, r6, r7, r8, r9⟩, z0, z1, z2, z3, z4, z5, z6, z7, z8, z9⟩ := Bk.fd hr52
    go_upto_region 13 with fail
    have hk6 : Bk (((((W52.setCell ⟨w.heap.size, 1, none⟩ (.bool false)).setCell ⟨w.heap.size, 2, none⟩ (.int .i64 0)).setCell ⟨w.heap.size, 3, none⟩ (.int .i64 0)).setCell ⟨w.heap.size, 4, none⟩ (.int .i64 0)).setCell ⟨w.heap.size, 5, none⟩ (.slice none 0 0)) w.heap.size 39 (dkC (.slice a1 es.length k1) (false) (0) (0) (0) (.slice none 0 0) (0) (t4) (an) (.slice a5 dd.length k5)) := (((((hk52.set 1 (.bool false)).set 2 (.int .i64 0)).set 3 (.int .i64 0)).set 4 (.int .i64 0)).set 5 (.slice none 0 0))
    have hr6 : Bk (((((W52.setCell ⟨w.heap.size, 1, none⟩ (.bool false)).setCell ⟨w.heap.size, 2, none⟩ (.int .i64 0)).setCell ⟨w.heap.size, 3, none⟩ (.int .i64 0)).setCell ⟨w.heap.size, 4, none⟩ (.int .i64 0)).setCell ⟨w.heap.size, 5, none⟩ (.slice none 0 0)) (w.heap.size + 1) 39 (dkC (.slice none 0 0) (false) (0) (0) (0) (.slice none 0 0) (0) (0) (0) (.slice none 0 0)) := (((((hr52.far (p := ⟨w.heap.size, 1, none⟩) (by show w.heap.size + 1 ≠ w.heap.size; omega) (.bool false)).far (p := ⟨w.heap.size, 2, none⟩) (by show w.heap.size + 1 ≠ w.heap.size; omega) (.int .i64 0)).far (p := ⟨w.heap.size, 3, none⟩) (by show w.heap.size + 1 ≠ w.heap.size; omega) (.int .i64 0)).far (p := ⟨w.heap.size, 4, none⟩) (by show w.heap.size + 1 ≠ w.heap.size; omega) (.int .i64 0)).far (p := ⟨w.heap.size, 5, none⟩) (by show w.heap.size + 1 ≠ w.heap.size; omega) (.slice none 0 0))
    have hl6 : Below w.heap.size w (((((W52.setCell ⟨w.heap.size, 1, none⟩ (.bool false)).setCell ⟨w.heap.size, 2, none⟩ (.int .i64 0)).setCell ⟨w.heap.size, 3, none⟩ (.int .i64 0)).setCell ⟨w.heap.size, 4, none⟩ (.int .i64 0)).setCell ⟨w.heap.size, 5, none⟩ (.slice none 0 0)) := (((((hl52.setCell (p := ⟨w.heap.size, 1, none⟩) (Nat.le_refl _) (.bool false)).setCell (p := ⟨w.heap.size, 2, none⟩) (Nat.le_refl _) (.int .i64 0)).setCell (p := ⟨w.heap.size, 3, none⟩) (Nat.le_refl _) (.int .i64 0)).setCell (p := ⟨w.heap.size, 4, none⟩) (Nat.le_refl _) (.int .i64 0)).setCell (p := ⟨w.heap.size, 5, none⟩) (Nat.le_refl _) (.slice none 0 0))
    have hw6 : Rw (w.heap.size + 1 + 1) (((((W52.setCell ⟨w.heap.size, 1, none⟩ (.bool false)).setCell ⟨w.heap.size, 2, none⟩ (.int .i64 0)).setCell ⟨w.heap.size, 3, none⟩ (.int .i64 0)).setCell ⟨w.heap.size, 4, none⟩ (.int .i64 0)).setCell ⟨w.heap.size, 5, none⟩ (.slice none 0 0)) (.slice a1 es.length k1) (.slice none 0 0) (.slice a5 dd.length k5) es4 es bs4 bs cd [] dd := hw52.turn (fun k h1 _ => by rw [Below.heap_setCell _ _ _ k (by show k ≠ w.heap.size; omega), Below.heap_setCell _ _ _ k (by show k ≠ w.heap.size; omega), Below.heap_setCell _ _ _ k (by show k ≠ w.heap.size; omega), Below.heap_setCell _ _ _ k (by show k ≠ w.heap.size; omega), Below.heap_setCell _ _ _ k (by show k ≠ w.heap.size; omega)])
    clear p0 p1 p2 p3 p4 p5 p6 p7 p8 p9 g0 g1 g2 g3 g4 g5 g6 g7 g8 g9 r0 r1 r2 r3 r4 r5 r6 r7 r8 r9 z0 z1 z2 z3 z4 z5 z6 z7 z8 z9 hk52 hr52 hl52 hw52
    generalize (((((W52.setCell ⟨w.heap.size, 1, none⟩ (.bool false)).setCell ⟨w.heap.size, 2, none⟩ (.int .i64 0)).setCell ⟨w.heap.size, 3, none⟩ (.int .i64 0)).setCell ⟨w.heap.size, 4, none⟩ (.int .i64 0)).setCell ⟨w.heap.size, 5, none⟩ (.slice none 0 0)) = W6 at *
    obtain ⟨⟨p0, p1, p2, p3, p4, p5, p6, p7, p8, p9⟩, g0, g1, g2, g3, g4, g5, g6, g7, g8, g9⟩ := Bk.fd hk6
    obtain ⟨⟨r0, r1, r2, r3, r4, r5, r6, r7, r8, r9⟩, z0, z1, z2, z3, z4, z5, z6, z7, z8, z9⟩ := Bk.fd hr6
    go_upto_region 14 with fail
    have hwA : w.heap.size + 1 + 1 ≤ W6.heap.size := by have := hr6.lt; omega
    have hkA : Bk (W6.alloc (.cells #[.int .i64 t4, .int .i64 an, .slice a5 dd.length k5] 35 (0, 0))) W6.heap.size 35 [.int .i64 t4, .int .i64 an, .slice a5 dd.length k5] := Bk.new W6 _ [.int .i64 t4, .int .i64 an, .slice a5 dd.length k5]
    have hk7 := hk6.alloc (.cells #[.int .i64 t4, .int .i64 an, .slice a5 dd.length k5] 35 (0, 0))
    have hr7 := hr6.alloc (.cells #[.int .i64 t4, .int .i64 an, .slice a5 dd.length k5] 35 (0, 0))
    have hl7 := hl6.alloc hl6.size (.cells #[.int .i64 t4, .int .i64 an, .slice a5 dd.length k5] 35 (0, 0))
    have hsl : Sl eb (W6.alloc (.cells #[.int .i64 t4, .int .i64 an, .slice a5 dd.length k5] 35 (0, 0))) (.slice a5 dd.length k5) dd := (Sl.ofOwn hw6.l).below (low_alloc _ _) (Nat.le_refl _)
    have hkeep : ∀ k, k < W6.heap.size → (W6.alloc (.cells #[.int .i64 t4, .int .i64 an, .slice a5 dd.length k5] 35 (0, 0))).heap[k]? = W6.heap[k]? := fun k hk => Below.heap_alloc _ _ k hk
    have hszA : (W6.alloc (.cells #[.int .i64 t4, .int .i64 an, .slice a5 dd.length k5] 35 (0, 0))).heap.size = W6.heap.size + 1 := by simp
    clear p0 p1 p2 p3 p4 p5 p6 p7 p8 p9 g0 g1 g2 g3 g4 g5 g6 g7 g8 g9 r0 r1 r2 r3 r4 r5 r6 r7 r8 r9 z0 z1 z2 z3 z4 z5 z6 z7 z8 z9 hk6 hr6 hl6
    generalize W6.alloc (.cells #[.int .i64 t4, .int .i64 an, .slice a5 dd.length k5] 35 (0, 0)) = W7 at *
    obtain ⟨bA, hbA⟩ : ∃ b, b = W6.heap.size := ⟨_, rfl⟩
    rw [← hbA] at hkA hwA hszA ⊢
    obtain ⟨e0, e1, e2⟩ : W7.cell? ⟨bA, 0, none⟩ = some (.int .i64 t4) ∧ W7.cell? ⟨bA, 1, none⟩ = some (.int .i64 an) ∧ W7.cell? ⟨bA, 2, none⟩ = some (.slice a5 dd.length k5) := ⟨hkA.cell 0, hkA.cell 1, hkA.cell 2⟩
    have HBA := Lib.hid hbA
    clear hbA
    have HBC : Hid (Calls Try.prog 45 #[.slice a5 dd.length k5] W7 fun e w' => ∃ v, e = .returned v ∧ w'.ownsRow W7.heap.size 5 1 v dd.length (dd.map eb) ∧ Below W7.heap.size W7 w') := bclone_w hsl (by have := HDD.out; omega)
    clear hsl
    go_upto_region 15 with (go_at_call 45; (with_reducible refine HBC.out.mono ?_); rintro e w8 ⟨v8, rfl, ho8, hb8⟩; obtain ⟨a4, k4, rfl⟩ := own_slice ho8; clear e0 e1 e2; obtain ⟨e0, e1, e2, x2⟩ : w8.cell? ⟨bA, 0, none⟩ = some (.int .i64 t4) ∧ w8.cell? ⟨bA, 1, none⟩ = some (.int .i64 an) ∧ w8.cell? ⟨bA, 2, none⟩ = some (.slice a5 dd.length k5) ∧ w8.frozen? ⟨bA, 2, none⟩ = false := ⟨(hkA.below hb8 hkA.lt).cell 0, (hkA.below hb8 hkA.lt).cell 1, (hkA.below hb8 hkA.lt).cell 2, (hkA.below hb8 hkA.lt).frozen 2⟩)
    have hkA9 : Bk (w8.setCell ⟨bA, 2, none⟩ (.slice a4 dd.length k4)) bA 35 [.int .i64 t4, .int .i64 an, .slice a4 dd.length k4] := (hkA.below hb8 hkA.lt).set 2 (.slice a4 dd.length k4)
    have hk9 : Bk (w8.setCell ⟨bA, 2, none⟩ (.slice a4 dd.length k4)) w.heap.size 39 (dkC (.slice a1 es.length k1) (false) (0) (0) (0) (.slice none 0 0) (0) (t4) (an) (.slice a5 dd.length k5)) := (hk7.below hb8 hk7.lt).far (p := ⟨bA, 2, none⟩) (by show w.heap.size ≠ bA; omega) (.slice a4 dd.length k4)
    have hr9 : Bk (w8.setCell ⟨bA, 2, none⟩ (.slice a4 dd.length k4)) (w.heap.size + 1) 39 (dkC (.slice none 0 0) (false) (0) (0) (0) (.slice none 0 0) (0) (0) (0) (.slice none 0 0)) := (hr7.below hb8 hr7.lt).far (p := ⟨bA, 2, none⟩) (by show w.heap.size + 1 ≠ bA; omega) (.slice a4 dd.length k4)
    have hl9 : Below w.heap.size w (w8.setCell ⟨bA, 2, none⟩ (.slice a4 dd.length k4)) := (stepAny hl7 hb8).setCell (p := ⟨bA, 2, none⟩) (by show w.heap.size ≤ bA; omega) (.slice a4 dd.length k4)
    have hw9 : Rw (w.heap.size + 1 + 1) (w8.setCell ⟨bA, 2, none⟩ (.slice a4 dd.length k4)) (.slice a1 es.length k1) (.slice none 0 0) (.slice a5 dd.length k5) es4 es bs4 bs cd [] dd := hw6.turn fun k h1 h2 => by
      have := HBA.out
      rw [Below.heap_setCell _ _ _ k (by show k ≠ bA; omega), hb8.block k (by omega), hkeep k h2]
    have ho9 : (w8.setCell ⟨bA, 2, none⟩ (.slice a4 dd.length k4)).ownsRow (w.heap.size + 1 + 1) 5 1 (.slice a4 dd.length k4) dd.length (dd.map eb) := own_keep (own_down ho8 (by omega)) fun k hk => Below.heap_setCell _ _ _ k (by have := (ho8.lt k hk).1; show k ≠ bA; omega)
    clear e0 e1 e2 x2 hkA hk7 hr7 hl7 hw6 hkeep hb8 ho8
    generalize w8.setCell ⟨bA, 2, none⟩ (.slice a4 dd.length k4) = W9 at *
    have HQ : Hid (∀ W, Below W9.heap.size W9 W → (FD W w.heap.size (.slice a1 es.length k1) (false) (0) (0) (0) (.slice none 0 0) (0) (t4) (an) (.slice a5 dd.length k5) ∧ FD W (w.heap.size + 1) (.slice none 0 0) (false) (0) (0) (0) (.slice none 0 0) (0) (0) (0) (.slice none 0 0)) ∧ W.cell? ⟨bA, 0, none⟩ = some (.int .i64 t4) ∧ W.cell? ⟨bA, 1, none⟩ = some (.int .i64 an) ∧ W.cell? ⟨bA, 2, none⟩ = some (.slice a4 dd.length k4)) := fun W hW =>
      ⟨⟨Bk.fd (hk9.below hW hk9.lt), Bk.fd (hr9.below hW hr9.lt)⟩, (hkA9.below hW hkA9.lt).cell 0, (hkA9.below hW hkA9.lt).cell 1, (hkA9.below hW hkA9.lt).cell 2⟩
    have hs9 : w.heap.size + 1 + 1 < W9.heap.size := by have := hkA9.lt; omega
    have hsW9 : w.heap.size ≤ W9.heap.size := by omega
    obtain ⟨⟨⟨⟨p0, p1, p2, p3, p4, p5, p6, p7, p8, p9⟩, -⟩, ⟨r0, r1, r2, r3, r4, r5, r6, r7, r8, r9⟩, z0, z1, z2, z3, z4, z5, z6, z7, z8, z9⟩, e0, e1, e2⟩ := HQ.out _ (low_refl W9)
    have hle : Below W9.heap.size W9 (W9.alloc (.cells #[.int .i64 t4, .int .i64 an, .slice a4 dd.length k4] 35 (0, 0))) := low_alloc W9 _
    obtain ⟨⟨⟨⟨q0, q1, q2, q3, q4, q5, q6, q7, q8, q9⟩, -⟩, ⟨v0, v1, v2, v3, v4, v5, v6, v7, v8, v9⟩, zv0, zv1, zv2, zv3, zv4, zv5, zv6, zv7, zv8, zv9⟩, n0, n1, n2⟩ := HQ.out _ hle
    have hbA9 := hkA9.lt
    have hAl : Below w.heap.size w (W9.alloc (.cells #[.int .i64 t4, .int .i64 an, .slice a4 dd.length k4] 35 (0, 0))) := hl9.alloc hl9.size _
    obtain ⟨Wf1, hWf1⟩ : ∃ W, W = (((((((((((W9.alloc (.cells #[.int .i64 t4, .int .i64 an, .slice a4 dd.length k4] 35 (0, 0))).setCell ⟨(w.heap.size + 1), 0, none⟩ (.slice a1 es.length k1)).setCell ⟨(w.heap.size + 1), 1, none⟩ (.bool false)).setCell ⟨(w.heap.size + 1), 2, none⟩ (.int .i64 0)).setCell ⟨(w.heap.size + 1), 3, none⟩ (.int .i64 0)).setCell ⟨(w.heap.size + 1), 4, none⟩ (.int .i64 0)).setCell ⟨(w.heap.size + 1), 5, none⟩ (.slice none 0 0)).setCell ⟨(w.heap.size + 1), 6, none⟩ (.int .i64 0)).setCell ⟨(w.heap.size + 1), 7, none⟩ (.int .i64 t4)).setCell ⟨(w.heap.size + 1), 8, none⟩ (.int .i64 an)).setCell ⟨(w.heap.size + 1), 9, none⟩ (.slice a5 dd.length k5)).drew := ⟨_, rfl⟩
    obtain ⟨Wf2, hWf2⟩ : ∃ W, W = (((((((((((W9.setCell ⟨(w.heap.size + 1), 0, none⟩ (.slice a1 es.length k1)).setCell ⟨(w.heap.size + 1), 1, none⟩ (.bool false)).setCell ⟨(w.heap.size + 1), 2, none⟩ (.int .i64 0)).setCell ⟨(w.heap.size + 1), 3, none⟩ (.int .i64 0)).setCell ⟨(w.heap.size + 1), 4, none⟩ (.int .i64 0)).setCell ⟨(w.heap.size + 1), 5, none⟩ (.slice none 0 0)).setCell ⟨(w.heap.size + 1), 6, none⟩ (.int .i64 0)).setCell ⟨(w.heap.size + 1), 7, none⟩ (.int .i64 t4)).setCell ⟨(w.heap.size + 1), 8, none⟩ (.int .i64 an)).setCell ⟨(w.heap.size + 1), 9, none⟩ (.slice a5 dd.length k5)).alloc (.cells #[.int .i64 t4, .int .i64 an, .slice a4 dd.length k4] 35 (0, 0))).drew := ⟨_, rfl⟩
    have hrf1 : Bk Wf1 (w.heap.size + 1) 39 (dkC (.slice a1 es.length k1) (false) (0) (0) (0) (.slice none 0 0) (0) (t4) (an) (.slice a5 dd.length k5)) := by rw [hWf1]; exact Bk.drew' ((hr9.alloc (.cells #[.int .i64 t4, .int .i64 an, .slice a4 dd.length k4] 35 (0, 0))).set10 (.slice a1 es.length k1) (.bool false) (.int .i64 0) (.int .i64 0) (.int .i64 0) (.slice none 0 0) (.int .i64 0) (.int .i64 t4) (.int .i64 an) (.slice a5 dd.length k5))
    have hlf1 : Below w.heap.size w Wf1 := by rw [hWf1]; exact (set10 (b := w.heap.size + 1) hAl (by omega) (.slice a1 es.length k1) (.bool false) (.int .i64 0) (.int .i64 0) (.int .i64 0) (.slice none 0 0) (.int .i64 0) (.int .i64 t4) (.int .i64 an) (.slice a5 dd.length k5)).drew
    have hkB1 : Bk Wf1 W9.heap.size 35 [.int .i64 t4, .int .i64 an, .slice a4 dd.length k4] := by rw [hWf1]; exact Bk.drew' <| (Bk.new W9 35 [.int .i64 t4, .int .i64 an, .slice a4 dd.length k4]).keep (set10_heap (W := W9.alloc (.cells #[.int .i64 t4, .int .i64 an, .slice a4 dd.length k4] 35 (0, 0))) (b := w.heap.size + 1) (by omega) (.slice a1 es.length k1) (.bool false) (.int .i64 0) (.int .i64 0) (.int .i64 0) (.slice none 0 0) (.int .i64 0) (.int .i64 t4) (.int .i64 an) (.slice a5 dd.length k5))
    have hwf1 : Rw (w.heap.size + 1 + 1) Wf1 (.slice a1 es.length k1) (.slice none 0 0) (.slice a5 dd.length k5) es4 es bs4 bs cd [] dd := by rw [hWf1]; exact Rw.drew <| hw9.turn fun k h1 h2 => (set10_heap (W := W9.alloc (.cells #[.int .i64 t4, .int .i64 an, .slice a4 dd.length k4] 35 (0, 0))) (b := w.heap.size + 1) (by omega) (.slice a1 es.length k1) (.bool false) (.int .i64 0) (.int .i64 0) (.int .i64 0) (.slice none 0 0) (.int .i64 0) (.int .i64 t4) (.int .i64 an) (.slice a5 dd.length k5)).trans (Below.heap_alloc _ _ k h2)
    have hof1 : Wf1.ownsRow (w.heap.size + 1 + 1) 5 1 (.slice a4 dd.length k4) dd.length (dd.map eb) := by rw [hWf1]; exact own_drew <| own_keep ho9 fun k hk => (set10_heap (W := W9.alloc (.cells #[.int .i64 t4, .int .i64 an, .slice a4 dd.length k4] 35 (0, 0))) (b := w.heap.size + 1) (by have := (ho9.lt k hk).1; omega) (.slice a1 es.length k1) (.bool false) (.int .i64 0) (.int .i64 0) (.int .i64 0) (.slice none 0 0) (.int .i64 0) (.int .i64 t4) (.int .i64 an) (.slice a5 dd.length k5)).trans (Below.heap_alloc _ _ k (ho9.lt k hk).2)
    have hsn : (((((((((((W9.setCell ⟨(w.heap.size + 1), 0, none⟩ (.slice a1 es.length k1)).setCell ⟨(w.heap.size + 1), 1, none⟩ (.bool false)).setCell ⟨(w.heap.size + 1), 2, none⟩ (.int .i64 0)).setCell ⟨(w.heap.size + 1), 3, none⟩ (.int .i64 0)).setCell ⟨(w.heap.size + 1), 4, none⟩ (.int .i64 0)).setCell ⟨(w.heap.size + 1), 5, none⟩ (.slice none 0 0)).setCell ⟨(w.heap.size + 1), 6, none⟩ (.int .i64 0)).setCell ⟨(w.heap.size + 1), 7, none⟩ (.int .i64 t4)).setCell ⟨(w.heap.size + 1), 8, none⟩ (.int .i64 an)).setCell ⟨(w.heap.size + 1), 9, none⟩ (.slice a5 dd.length k5))).heap.size = W9.heap.size := set10_size (.slice a1 es.length k1) (.bool false) (.int .i64 0) (.int .i64 0) (.int .i64 0) (.slice none 0 0) (.int .i64 0) (.int .i64 t4) (.int .i64 an) (.slice a5 dd.length k5)
    have hrf2 : Bk Wf2 (w.heap.size + 1) 39 (dkC (.slice a1 es.length k1) (false) (0) (0) (0) (.slice none 0 0) (0) (t4) (an) (.slice a5 dd.length k5)) := by rw [hWf2]; exact Bk.drew' <| (hr9.set10 (.slice a1 es.length k1) (.bool false) (.int .i64 0) (.int .i64 0) (.int .i64 0) (.slice none 0 0) (.int .i64 0) (.int .i64 t4) (.int .i64 an) (.slice a5 dd.length k5)).alloc (.cells #[.int .i64 t4, .int .i64 an, .slice a4 dd.length k4] 35 (0, 0))
    have hlf2 : Below w.heap.size w Wf2 := by rw [hWf2]; exact ((set10 (b := w.heap.size + 1) hl9 (by omega) (.slice a1 es.length k1) (.bool false) (.int .i64 0) (.int .i64 0) (.int .i64 0) (.slice none 0 0) (.int .i64 0) (.int .i64 t4) (.int .i64 an) (.slice a5 dd.length k5)).alloc (by rw [hsn]; omega) _).drew
    have hkB2 : Bk Wf2 W9.heap.size 35 [.int .i64 t4, .int .i64 an, .slice a4 dd.length k4] := by rw [hWf2]; exact Bk.drew' <| Bk.newAt ((((((((((W9.setCell ⟨(w.heap.size + 1), 0, none⟩ (.slice a1 es.length k1)).setCell ⟨(w.heap.size + 1), 1, none⟩ (.bool false)).setCell ⟨(w.heap.size + 1), 2, none⟩ (.int .i64 0)).setCell ⟨(w.heap.size + 1), 3, none⟩ (.int .i64 0)).setCell ⟨(w.heap.size + 1), 4, none⟩ (.int .i64 0)).setCell ⟨(w.heap.size + 1), 5, none⟩ (.slice none 0 0)).setCell ⟨(w.heap.size + 1), 6, none⟩ (.int .i64 0)).setCell ⟨(w.heap.size + 1), 7, none⟩ (.int .i64 t4)).setCell ⟨(w.heap.size + 1), 8, none⟩ (.int .i64 an)).setCell ⟨(w.heap.size + 1), 9, none⟩ (.slice a5 dd.length k5)) 35 [.int .i64 t4, .int .i64 an, .slice a4 dd.length k4] hsn.symm
    have hwf2 : Rw (w.heap.size + 1 + 1) Wf2 (.slice a1 es.length k1) (.slice none 0 0) (.slice a5 dd.length k5) es4 es bs4 bs cd [] dd := by rw [hWf2]; exact Rw.drew <| hw9.turn fun k h1 h2 => (Below.heap_alloc ((((((((((W9.setCell ⟨(w.heap.size + 1), 0, none⟩ (.slice a1 es.length k1)).setCell ⟨(w.heap.size + 1), 1, none⟩ (.bool false)).setCell ⟨(w.heap.size + 1), 2, none⟩ (.int .i64 0)).setCell ⟨(w.heap.size + 1), 3, none⟩ (.int .i64 0)).setCell ⟨(w.heap.size + 1), 4, none⟩ (.int .i64 0)).setCell ⟨(w.heap.size + 1), 5, none⟩ (.slice none 0 0)).setCell ⟨(w.heap.size + 1), 6, none⟩ (.int .i64 0)).setCell ⟨(w.heap.size + 1), 7, none⟩ (.int .i64 t4)).setCell ⟨(w.heap.size + 1), 8, none⟩ (.int .i64 an)).setCell ⟨(w.heap.size + 1), 9, none⟩ (.slice a5 dd.length k5)) _ k (by rw [hsn]; exact h2)).trans (set10_heap (W := W9) (b := w.heap.size + 1) (by omega) (.slice a1 es.length k1) (.bool false) (.int .i64 0) (.int .i64 0) (.int .i64 0) (.slice none 0 0) (.int .i64 0) (.int .i64 t4) (.int .i64 an) (.slice a5 dd.length k5))
    have hof2 : Wf2.ownsRow (w.heap.size + 1 + 1) 5 1 (.slice a4 dd.length k4) dd.length (dd.map eb) := by rw [hWf2]; exact own_drew <| own_keep ho9 fun k hk => (Below.heap_alloc ((((((((((W9.setCell ⟨(w.heap.size + 1), 0, none⟩ (.slice a1 es.length k1)).setCell ⟨(w.heap.size + 1), 1, none⟩ (.bool false)).setCell ⟨(w.heap.size + 1), 2, none⟩ (.int .i64 0)).setCell ⟨(w.heap.size + 1), 3, none⟩ (.int .i64 0)).setCell ⟨(w.heap.size + 1), 4, none⟩ (.int .i64 0)).setCell ⟨(w.heap.size + 1), 5, none⟩ (.slice none 0 0)).setCell ⟨(w.heap.size + 1), 6, none⟩ (.int .i64 0)).setCell ⟨(w.heap.size + 1), 7, none⟩ (.int .i64 t4)).setCell ⟨(w.heap.size + 1), 8, none⟩ (.int .i64 an)).setCell ⟨(w.heap.size + 1), 9, none⟩ (.slice a5 dd.length k5)) _ k (by rw [hsn]; exact (ho9.lt k hk).2)).trans (set10_heap (W := W9) (b := w.heap.size + 1) (by have := (ho9.lt k hk).1; omega) (.slice a1 es.length k1) (.bool false) (.int .i64 0) (.int .i64 0) (.int .i64 0) (.slice none 0 0) (.int .i64 0) (.int .i64 t4) (.int .i64 an) (.slice a5 dd.length k5))
    have HWf1 := Lib.hid hWf1
    have HWf2 := Lib.hid hWf2
    clear hWf1 hWf2
    have HXX := Lib.hid hX
    go_region
    all_goals first
      | (rw [← HWf1.out]; clear hrf2 hlf2 hkB2 hwf2 hof2 hsn p0 p1 p2 p3 p4 p5 p6 p7 p8 p9 r0 r1 r2 r3 r4 r5 r6 r7 r8 r9 z0 z1 z2 z3 z4 z5 z6 z7 z8 z9 e0 e1 e2 n0 n1 n2 q0 q1 q2 q3 q4 q5 q6 q7 q8 q9 v0 v1 v2 v3 v4 v5 v6 v7 v8 v9 zv0 zv1 zv2 zv3 zv4 zv5 zv6 zv7 zv8 zv9 hk9 hr9 hl9 hw9 ho9 hkA9 hle hAl HQ HWf1 HWf2; obtain ⟨⟨r0, r1, r2, r3, r4, r5, r6, r7, r8, r9⟩, -⟩ := Bk.fd hrf1; go_wp2_with fail; exact bodyPost_ret (v := .tuple #[.agg #[.slice a1 es.length k1, .bool false, .int .i64 0, .int .i64 0, .int .i64 0, .slice none 0 0, .int .i64 0, .int .i64 t4, .int .i64 an, .slice a5 dd.length k5], .slice (some ⟨W9.heap.size, 0, none⟩) 1 1]) (by simp [results, Try.results20, go_sem, r0, r1, r2, r3, r4, r5, r6, r7, r8, r9]) rfl ⟨_, _, _, es4, _, rfl, Dw.down (B' := w.heap.size) (hwf1.dropC.dw (fun b hb => by have := HXX.out b hb; omega) HN.out (HE.out.below hlf1)) (Nat.le_succ_of_le (Nat.le_succ _)), ⟨W9.heap.size, _, rfl, hsW9, hkB1, own_down (base' := w.heap.size) hof1 (Nat.le_succ_of_le (Nat.le_succ _))⟩, hlf1⟩)
      | (rw [← HWf2.out]; clear hrf1 hlf1 hkB1 hwf1 hof1 hsn p0 p1 p2 p3 p4 p5 p6 p7 p8 p9 r0 r1 r2 r3 r4 r5 r6 r7 r8 r9 z0 z1 z2 z3 z4 z5 z6 z7 z8 z9 e0 e1 e2 n0 n1 n2 q0 q1 q2 q3 q4 q5 q6 q7 q8 q9 v0 v1 v2 v3 v4 v5 v6 v7 v8 v9 zv0 zv1 zv2 zv3 zv4 zv5 zv6 zv7 zv8 zv9 hk9 hr9 hl9 hw9 ho9 hkA9 hle hAl HQ HWf1 HWf2; obtain ⟨⟨r0, r1, r2, r3, r4, r5, r6, r7, r8, r9⟩, -⟩ := Bk.fd hrf2; go_wp2_with fail; exact bodyPost_ret (v := .tuple #[.agg #[.slice a1 es.length k1, .bool false, .int .i64 0, .int .i64 0, .int .i64 0, .slice none 0 0, .int .i64 0, .int .i64 t4, .int .i64 an, .slice a5 dd.length k5], .slice (some ⟨W9.heap.size, 0, none⟩) 1 1]) (by simp [results, Try.results20, go_sem, r0, r1, r2, r3, r4, r5, r6, r7, r8, r9]) rfl ⟨_, _, _, es4, _, rfl, Dw.down (B' := w.heap.size) (hwf2.dropC.dw (fun b hb => by have := HXX.out b hb; omega) HN.out (HE.out.below hlf2)) (Nat.le_succ_of_le (Nat.le_succ _)), ⟨W9.heap.size, _, rfl, hsW9, hkB2, own_down (base' := w.heap.size) hof2 (Nat.le_succ_of_le (Nat.le_succ _))⟩, hlf2⟩)
end Go.Proofs.Yteeoonoccklhmaa
