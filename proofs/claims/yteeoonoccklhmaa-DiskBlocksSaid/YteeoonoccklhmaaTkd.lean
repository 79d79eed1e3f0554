/-
  The walk of Tick of disk, an answer (printed by gen/mk11tick.py).
-/
import Derived.Test.YteeoonoccklhmaaTk
namespace Go.Proofs.Yteeoonoccklhmaa
open Go.RowKit

/-- The rows of a disk in the midst of Tick; one block's bytes may be new. -/
structure Rw (B : Nat) (W : World) (ub uc ul : Value) (es es0 : List Tr) (bs bs0 : List (List UInt8)) (xs cd ld : List UInt8) : Prop where
  r : W.ownsRow B 23 1 ub es.length (es.map et)
  c : W.ownsRow B 5 1 uc cd.length (cd.map eb)
  l : W.ownsRow B 5 1 ul ld.length (ld.map eb)
  x : (es = es0 ∧ bs = bs0) ∨ ∃ i tr, i < es0.length ∧ es = es0.set i tr ∧ bs = bs0.set i xs ∧ W.ownsRow B 5 1 (et tr) xs.length (xs.map eb)
section
variable {B : Nat} {W W' : World} {ub uc ul : Value} {es es0 : List Tr} {bs bs0 : List (List UInt8)} {xs cd ld : List UInt8} {X : Nat → Prop}
theorem Rw.turn (h : Rw B W ub uc ul es es0 bs bs0 xs cd ld) (hk : ∀ k, B ≤ k → k < W.heap.size → W'.heap[k]? = W.heap[k]?) : Rw B W' ub uc ul es es0 bs bs0 xs cd ld :=
  ⟨own_keep h.r fun k hk' => hk k (h.r.lt k hk').1 (h.r.lt k hk').2, own_keep h.c fun k hk' => hk k (h.c.lt k hk').1 (h.c.lt k hk').2, own_keep h.l fun k hk' => hk k (h.l.lt k hk').1 (h.l.lt k hk').2,
   h.x.imp id fun ⟨i, tr, h1, h2, h3, h4⟩ => ⟨i, tr, h1, h2, h3, own_keep h4 fun k hk' => hk k (h4.lt k hk').1 (h4.lt k hk').2⟩⟩
theorem Rw.dw (h : Rw B W ub uc ul es es0 bs bs0 xs cd ld) (hX : ∀ b, X b → b < B) (hn : es0.length = bs0.length) (hE : Av X (fun W => ∀ i (h : i < es0.length) (h' : i < bs0.length), Sl eb W (et es0[i]) bs0[i]) W) : Dw B X W ub uc ul es bs cd ld := by
  refine ⟨h.r, ?_, ?_, h.c, h.l⟩
  · rcases h.x with ⟨rfl, rfl⟩ | ⟨i, tr, _, rfl, rfl, _⟩
    · exact hn
    · simpa using hn
  · rcases h.x with ⟨rfl, rfl⟩ | ⟨i, tr, hi, rfl, rfl, ho⟩
    · exact hE
    · intro W2 hW j h1 h2
      have h3 := hE W2 hW
      have h4 := own_av (enc := eb) ho hX W2 hW
      by_cases e : i = j
      · subst e; simpa using h4
      · rw [List.getElem_set_ne e, List.getElem_set_ne e]
        exact h3 j (by simpa using h1) (by simpa using h2)
theorem Rw.dropC (h : Rw B W ub uc ul es es0 bs bs0 xs cd ld) : Rw B W ub (.slice none 0 0) ul es es0 bs bs0 xs [] ld := ⟨h.r, World.ownsRow_nil _ _ _ _, h.l, h.x⟩
theorem Bk.drew' {g : Nat} {t : TypeId} {l : List Value} (h : Bk W g t l) : Bk W.drew g t l := h
theorem Rw.drew (h : Rw B W ub uc ul es es0 bs bs0 xs cd ld) : Rw B W.drew ub uc ul es es0 bs bs0 xs cd ld := h.turn fun _ _ _ => rfl
theorem own_drew {n : Nat} {e : TypeId} {v : Value} {l : List Value} (h : W.ownsRow B e 1 v n l) : W.drew.ownsRow B e 1 v n l := own_keep h fun _ _ => rfl
theorem Dw.rw' (h : Dw B X W ub uc ul es bs cd ld) (xs : List UInt8) : Rw B W ub uc ul es es bs bs xs cd ld := ⟨h.r, h.c, h.l, .inl ⟨rfl, rfl⟩⟩
end
theorem set10_cell {W : World} {b k j : Nat} (hk : k ≠ b) (v0 v1 v2 v3 v4 v5 v6 v7 v8 v9 : Value) : (((((((((((W.setCell ⟨b, 0, none⟩ v0).setCell ⟨b, 1, none⟩ v1).setCell ⟨b, 2, none⟩ v2).setCell ⟨b, 3, none⟩ v3).setCell ⟨b, 4, none⟩ v4).setCell ⟨b, 5, none⟩ v5).setCell ⟨b, 6, none⟩ v6).setCell ⟨b, 7, none⟩ v7).setCell ⟨b, 8, none⟩ v8).setCell ⟨b, 9, none⟩ v9)).cell? ⟨k, j, none⟩ = W.cell? ⟨k, j, none⟩ := World.cell?_of_block (a := ⟨k, j, none⟩) (set10_heap hk _ _ _ _ _ _ _ _ _ _)

set_option maxRecDepth 100000 in
set_option maxHeartbeats 8000000 in
theorem tick_D_w (o : Bool) (ct co cp l lt la : Int) {ub uc ul : Value} {es : List Tr} {bs : List (List UInt8)} {cd ld : List UInt8} {w : World} {X : Nat → Prop} (hd : De w ub uc ul es bs cd ld) (hE : Av X (fun W => ∀ i (h : i < es.length) (h' : i < bs.length), Sl eb W (et es[i]) bs[i]) w)
    (hes : es.length ≤ 1000) (hcd : cd.length ≤ 1000) (hld : ld.length ≤ 1000) (hv : Dk.valid (bs, (o, (ct, co, cp, cd), l, (lt, la, ld))) = true) (ho : o = true) (h : l = 1) (he : lt = ct) (hX : ∀ b, X b → b < w.heap.size) :
    Calls Try.prog 20 #[.agg #[ub, .bool o, .int .i64 ct, .int .i64 co, .int .i64 cp, uc, .int .i64 l, .int .i64 lt, .int .i64 la, ul]] w (RetTk w X (Dk.tick (bs, (o, (ct, co, cp, cd), l, (lt, la, ld))))) := by
  obtain ⟨aub, cub, hub, -⟩ := id hd.r
  obtain ⟨auc, cuc, huc, -⟩ := id hd.c
  obtain ⟨aul, cul, hul, -⟩ := id hd.l
  subst hub huc hul
  obtain ⟨W0, hW0⟩ : ∃ W0, W0 = (w.alloc (.cells #[.slice aub es.length cub, .bool o, .int .i64 ct, .int .i64 co, .int .i64 cp, .slice auc cd.length cuc, .int .i64 l, .int .i64 lt, .int .i64 la, .slice aul ld.length cul] 39 (0, 0))).alloc (.cells #[.slice none 0 0, .bool false, .int .i64 0, .int .i64 0, .int .i64 0, .slice none 0 0, .int .i64 0, .int .i64 0, .int .i64 0, .slice none 0 0] 39 (0, 0)) := ⟨_, rfl⟩
  have hsz0 : W0.heap.size = w.heap.size + 1 + 1 := by rw [hW0]; simp
  have hK : Bk W0 w.heap.size 39 (dkC (.slice aub es.length cub) (o) (ct) (co) (cp) (.slice auc cd.length cuc) (l) (lt) (la) (.slice aul ld.length cul)) := by rw [hW0]; exact (Bk.new w _ (dkC _ _ _ _ _ _ _ _ _ _)).alloc _
  have hR : Bk W0 (w.heap.size + 1) 39 (dkC (.slice none 0 0) (false) (0) (0) (0) (.slice none 0 0) (0) (0) (0) (.slice none 0 0)) := by rw [hW0]; exact Bk.newAt _ _ (dkC _ _ _ _ _ _ _ _ _ _) (by simp)
  have hL : Below w.heap.size w W0 := by rw [hW0]; exact (low_alloc _ _).alloc (by simp) _
  have HV : Hid (∀ W, Below w.heap.size w W → Calls Try.prog 17 #[.agg #[.slice aub es.length cub, .bool o, .int .i64 ct, .int .i64 co, .int .i64 cp, .slice auc cd.length cuc, .int .i64 l, .int .i64 lt, .int .i64 la, .slice aul ld.length cul]] W fun e w' => e = .returned (.bool (Dk.valid (bs, (o, (ct, co, cp, cd), l, (lt, la, ld))))) ∧ Below W.heap.size W w') := fun W hW => dvalid_w o ct co cp l lt la (hd.dr.below hW (Nat.le_refl _))
  have HCP : Hid (∀ W, Below w.heap.size w W → Calls Try.prog 30 #[.agg #[.slice aub es.length cub, .bool o, .int .i64 ct, .int .i64 co, .int .i64 cp, .slice auc cd.length cuc, .int .i64 l, .int .i64 lt, .int .i64 la, .slice aul ld.length cul]] W fun e w' => ∃ ub' uc' ul', e = .returned (.agg #[ub', .bool o, .int .i64 ct, .int .i64 co, .int .i64 cp, uc', .int .i64 l, .int .i64 lt, .int .i64 la, ul']) ∧ Dw W.heap.size X w' ub' uc' ul' es bs cd ld ∧ Below W.heap.size W w') := fun W hW => copied_w o ct co cp l lt la (hd.below hW (Nat.le_refl _)) (hE.below hW) hes hcd hld
  have HE := Lib.hid hE
  have HN := Lib.hid hd.n
  have HL := Lib.hid hL
  have HR := Lib.hid hR
  have HK := Lib.hid hK
  have HSZ := Lib.hid hsz0
  have HCD := Lib.hid hcd
  have HLD := Lib.hid hld
  clear hd hE hes hcd hld hK hR hL hsz0
  have HW0 := Lib.hid hW0
  clear hW0
  rw [hv] at HV
  have HVV := Lib.hid hv
  clear hv
  subst ho h he
  rw [tick_D HVV.out (by omega)]
  have hne : (lt != lt) = false := by simp
  go_enter Try.func20, Try.ntmps20
  go_upto_region 1 with fail
  rw [← HW0.out]
  obtain ⟨⟨p0, p1, p2, p3, p4, p5, p6, p7, p8, p9⟩, -⟩ := Bk.fd HK.out
  go_upto_region 5 with (first | (go_at_call 17; (with_reducible refine (HV.out _ HL.out).mono ?_); rintro e w1 ⟨rfl, hb1⟩; have hl1 := stepAny HL.out hb1; clear p0 p1 p2 p3 p4 p5 p6 p7 p8 p9; obtain ⟨⟨p0, p1, p2, p3, p4, p5, p6, p7, p8, p9⟩, g0, g1, g2, g3, g4, g5, g6, g7, g8, g9⟩ := Bk.fd (HK.out.below hb1 HK.out.lt); obtain ⟨⟨r0, r1, r2, r3, r4, r5, r6, r7, r8, r9⟩, z0, z1, z2, z3, z4, z5, z6, z7, z8, z9⟩ := Bk.fd (HR.out.below hb1 HR.out.lt)) | (go_at_call 30; (with_reducible refine (HCP.out _ hl1).mono ?_); rintro e w2 ⟨v1, v2, v3, rfl, hdw, hb2⟩; obtain ⟨a1, k1, rfl⟩ := own_slice hdw.r; obtain ⟨a2, k2, rfl⟩ := own_slice hdw.c; obtain ⟨a3, k3, rfl⟩ := own_slice hdw.l; clear p0 p1 p2 p3 p4 p5 p6 p7 p8 p9 g0 g1 g2 g3 g4 g5 g6 g7 g8 g9; obtain ⟨⟨p0, p1, p2, p3, p4, p5, p6, p7, p8, p9⟩, g0, g1, g2, g3, g4, g5, g6, g7, g8, g9⟩ := Bk.fd ((HK.out.below hb1 HK.out.lt).below hb2 (HK.out.below hb1 HK.out.lt).lt)))
  have hs := HSZ.out
  have hs1 : w.heap.size + 1 + 1 ≤ w1.heap.size := by have := hb1.size; omega
  have hl2 := stepAny hl1 hb2
  have hk3 : Bk ((((((((((w2.setCell ⟨w.heap.size, 0, none⟩ (.slice a1 es.length k1)).setCell ⟨w.heap.size, 1, none⟩ (.bool true)).setCell ⟨w.heap.size, 2, none⟩ (.int .i64 lt)).setCell ⟨w.heap.size, 3, none⟩ (.int .i64 co)).setCell ⟨w.heap.size, 4, none⟩ (.int .i64 cp)).setCell ⟨w.heap.size, 5, none⟩ (.slice a2 cd.length k2)).setCell ⟨w.heap.size, 6, none⟩ (.int .i64 1)).setCell ⟨w.heap.size, 7, none⟩ (.int .i64 lt)).setCell ⟨w.heap.size, 8, none⟩ (.int .i64 la)).setCell ⟨w.heap.size, 9, none⟩ (.slice a3 ld.length k3)) w.heap.size 39 (dkC (.slice a1 es.length k1) (true) (lt) (co) (cp) (.slice a2 cd.length k2) (1) (lt) (la) (.slice a3 ld.length k3)) := ((HK.out.below hb1 HK.out.lt).below hb2 (HK.out.below hb1 HK.out.lt).lt).set10 (.slice a1 es.length k1) (.bool true) (.int .i64 lt) (.int .i64 co) (.int .i64 cp) (.slice a2 cd.length k2) (.int .i64 1) (.int .i64 lt) (.int .i64 la) (.slice a3 ld.length k3)
  have hr3 : Bk ((((((((((w2.setCell ⟨w.heap.size, 0, none⟩ (.slice a1 es.length k1)).setCell ⟨w.heap.size, 1, none⟩ (.bool true)).setCell ⟨w.heap.size, 2, none⟩ (.int .i64 lt)).setCell ⟨w.heap.size, 3, none⟩ (.int .i64 co)).setCell ⟨w.heap.size, 4, none⟩ (.int .i64 cp)).setCell ⟨w.heap.size, 5, none⟩ (.slice a2 cd.length k2)).setCell ⟨w.heap.size, 6, none⟩ (.int .i64 1)).setCell ⟨w.heap.size, 7, none⟩ (.int .i64 lt)).setCell ⟨w.heap.size, 8, none⟩ (.int .i64 la)).setCell ⟨w.heap.size, 9, none⟩ (.slice a3 ld.length k3)) (w.heap.size + 1) 39 (dkC (.slice none 0 0) (false) (0) (0) (0) (.slice none 0 0) (0) (0) (0) (.slice none 0 0)) := ((HR.out.below hb1 HR.out.lt).below hb2 (HR.out.below hb1 HR.out.lt).lt).keep (set10_heap (W := w2) (b := w.heap.size) (by omega) (.slice a1 es.length k1) (.bool true) (.int .i64 lt) (.int .i64 co) (.int .i64 cp) (.slice a2 cd.length k2) (.int .i64 1) (.int .i64 lt) (.int .i64 la) (.slice a3 ld.length k3))
  have hl3 : Below w.heap.size w ((((((((((w2.setCell ⟨w.heap.size, 0, none⟩ (.slice a1 es.length k1)).setCell ⟨w.heap.size, 1, none⟩ (.bool true)).setCell ⟨w.heap.size, 2, none⟩ (.int .i64 lt)).setCell ⟨w.heap.size, 3, none⟩ (.int .i64 co)).setCell ⟨w.heap.size, 4, none⟩ (.int .i64 cp)).setCell ⟨w.heap.size, 5, none⟩ (.slice a2 cd.length k2)).setCell ⟨w.heap.size, 6, none⟩ (.int .i64 1)).setCell ⟨w.heap.size, 7, none⟩ (.int .i64 lt)).setCell ⟨w.heap.size, 8, none⟩ (.int .i64 la)).setCell ⟨w.heap.size, 9, none⟩ (.slice a3 ld.length k3)) := set10 hl2 (Nat.le_refl _) (.slice a1 es.length k1) (.bool true) (.int .i64 lt) (.int .i64 co) (.int .i64 cp) (.slice a2 cd.length k2) (.int .i64 1) (.int .i64 lt) (.int .i64 la) (.slice a3 ld.length k3)
  have hd3 : Dw (w.heap.size + 1 + 1) X ((((((((((w2.setCell ⟨w.heap.size, 0, none⟩ (.slice a1 es.length k1)).setCell ⟨w.heap.size, 1, none⟩ (.bool true)).setCell ⟨w.heap.size, 2, none⟩ (.int .i64 lt)).setCell ⟨w.heap.size, 3, none⟩ (.int .i64 co)).setCell ⟨w.heap.size, 4, none⟩ (.int .i64 cp)).setCell ⟨w.heap.size, 5, none⟩ (.slice a2 cd.length k2)).setCell ⟨w.heap.size, 6, none⟩ (.int .i64 1)).setCell ⟨w.heap.size, 7, none⟩ (.int .i64 lt)).setCell ⟨w.heap.size, 8, none⟩ (.int .i64 la)).setCell ⟨w.heap.size, 9, none⟩ (.slice a3 ld.length k3)) (.slice a1 es.length k1) (.slice a2 cd.length k2) (.slice a3 ld.length k3) es bs cd ld := (hdw.down hs1).turn (fun k h1 _ => set10_heap (W := w2) (b := w.heap.size) (by omega) (.slice a1 es.length k1) (.bool true) (.int .i64 lt) (.int .i64 co) (.int .i64 cp) (.slice a2 cd.length k2) (.int .i64 1) (.int .i64 lt) (.int .i64 la) (.slice a3 ld.length k3)) (HE.out.below hl3)
  clear p0 p1 p2 p3 p4 p5 p6 p7 p8 p9 g0 g1 g2 g3 g4 g5 g6 g7 g8 g9 r0 r1 r2 r3 r4 r5 r6 r7 r8 r9 z0 z1 z2 z3 z4 z5 z6 z7 z8 z9 hdw hb1 hb2 hl1 hl2 hs1
  generalize ((((((((((w2.setCell ⟨w.heap.size, 0, none⟩ (.slice a1 es.length k1)).setCell ⟨w.heap.size, 1, none⟩ (.bool true)).setCell ⟨w.heap.size, 2, none⟩ (.int .i64 lt)).setCell ⟨w.heap.size, 3, none⟩ (.int .i64 co)).setCell ⟨w.heap.size, 4, none⟩ (.int .i64 cp)).setCell ⟨w.heap.size, 5, none⟩ (.slice a2 cd.length k2)).setCell ⟨w.heap.size, 6, none⟩ (.int .i64 1)).setCell ⟨w.heap.size, 7, none⟩ (.int .i64 lt)).setCell ⟨w.heap.size, 8, none⟩ (.int .i64 la)).setCell ⟨w.heap.size, 9, none⟩ (.slice a3 ld.length k3)) = W3 at *
  obtain ⟨⟨p0, p1, p2, p3, p4, p5, p6, p7, p8, p9⟩, g0, g1, g2, g3, g4, g5, g6, g7, g8, g9⟩ := Bk.fd hk3
  obtain ⟨⟨r0, r1, r2, r3, r4, r5, r6, r7, r8, r9⟩, z0, z1, z2, z3, z4, z5, z6, z7, z8, z9⟩ := Bk.fd hr3
  have hw3 := hd3.rw' cd
  clear hd3
  go_upto_region 10 with fail
  have hk4 : Bk (W3.setCell ⟨w.heap.size, 6, none⟩ (.int .i64 0)) w.heap.size 39 (dkC (.slice a1 es.length k1) (true) (lt) (co) (cp) (.slice a2 cd.length k2) (0) (lt) (la) (.slice a3 ld.length k3)) := (hk3.set 6 (.int .i64 0))
  have hr4 : Bk (W3.setCell ⟨w.heap.size, 6, none⟩ (.int .i64 0)) (w.heap.size + 1) 39 (dkC (.slice none 0 0) (false) (0) (0) (0) (.slice none 0 0) (0) (0) (0) (.slice none 0 0)) := (hr3.far (p := ⟨w.heap.size, 6, none⟩) (by show w.heap.size + 1 ≠ w.heap.size; omega) (.int .i64 0))
  have hl4 : Below w.heap.size w (W3.setCell ⟨w.heap.size, 6, none⟩ (.int .i64 0)) := (hl3.setCell (p := ⟨w.heap.size, 6, none⟩) (Nat.le_refl _) (.int .i64 0))
  have hw4 : Rw (w.heap.size + 1 + 1) (W3.setCell ⟨w.heap.size, 6, none⟩ (.int .i64 0)) (.slice a1 es.length k1) (.slice a2 cd.length k2) (.slice a3 ld.length k3) es es bs bs cd cd ld := hw3.turn (fun k h1 _ => by rw [Below.heap_setCell _ _ _ k (by show k ≠ w.heap.size; omega)])
  clear p0 p1 p2 p3 p4 p5 p6 p7 p8 p9 g0 g1 g2 g3 g4 g5 g6 g7 g8 g9 r0 r1 r2 r3 r4 r5 r6 r7 r8 r9 z0 z1 z2 z3 z4 z5 z6 z7 z8 z9 hk3 hr3 hl3 hw3
  generalize (W3.setCell ⟨w.heap.size, 6, none⟩ (.int .i64 0)) = W4 at *
  obtain ⟨⟨p0, p1, p2, p3, p4, p5, p6, p7, p8, p9⟩, g0, g1, g2, g3, g4, g5, g6, g7, g8, g9⟩ := Bk.fd hk4
  obtain ⟨⟨r0, r1, r2, r3, r4, r5, r6, r7, r8, r9⟩, z0, z1, z2, z3, z4, z5, z6, z7, z8, z9⟩ := Bk.fd hr4
  go_quiet (fail)
  have hk5 : Bk (W4.drewN nq) w.heap.size 39 (dkC (.slice a1 es.length k1) (true) (lt) (co) (cp) (.slice a2 cd.length k2) (0) (lt) (la) (.slice a3 ld.length k3)) := hk4
  have hr5 : Bk (W4.drewN nq) (w.heap.size + 1) 39 (dkC (.slice none 0 0) (false) (0) (0) (0) (.slice none 0 0) (0) (0) (0) (.slice none 0 0)) := hr4
  have hl5 : Below w.heap.size w (W4.drewN nq) := ⟨hl4.os, hl4.tape, hl4.output, hl4.size, hl4.block⟩
  have hw5 : Rw (w.heap.size + 1 + 1) (W4.drewN nq) (.slice a1 es.length k1) (.slice a2 cd.length k2) (.slice a3 ld.length k3) es es bs bs cd cd ld := hw4.turn (fun _ _ _ => rfl)
  clear p0 p1 p2 p3 p4 p5 p6 p7 p8 p9 g0 g1 g2 g3 g4 g5 g6 g7 g8 g9 r0 r1 r2 r3 r4 r5 r6 r7 r8 r9 z0 z1 z2 z3 z4 z5 z6 z7 z8 z9 hk4 hr4 hl4 hw4
  generalize W4.drewN nq = W5 at *
  obtain ⟨⟨p0, p1, p2, p3, p4, p5, p6, p7, p8, p9⟩, g0, g1, g2, g3, g4, g5, g6, g7, g8, g9⟩ := Bk.fd hk5
  obtain ⟨⟨r0, r1, r2, r3, r4, r5, r6, r7, r8, r9⟩, z0, z1, z2, z3, z4, z5, z6, z7, z8, z9⟩ := Bk.fd hr5
  go_upto_region 13 with fail
  have hk6 : Bk (((((W5.setCell ⟨w.heap.size, 1, none⟩ (.bool false)).setCell ⟨w.heap.size, 2, none⟩ (.int .i64 0)).setCell ⟨w.heap.size, 3, none⟩ (.int .i64 0)).setCell ⟨w.heap.size, 4, none⟩ (.int .i64 0)).setCell ⟨w.heap.size, 5, none⟩ (.slice none 0 0)) w.heap.size 39 (dkC (.slice a1 es.length k1) (false) (0) (0) (0) (.slice none 0 0) (0) (lt) (la) (.slice a3 ld.length k3)) := (((((hk5.set 1 (.bool false)).set 2 (.int .i64 0)).set 3 (.int .i64 0)).set 4 (.int .i64 0)).set 5 (.slice none 0 0))
  have hr6 : Bk (((((W5.setCell ⟨w.heap.size, 1, none⟩ (.bool false)).setCell ⟨w.heap.size, 2, none⟩ (.int .i64 0)).setCell ⟨w.heap.size, 3, none⟩ (.int .i64 0)).setCell ⟨w.heap.size, 4, none⟩ (.int .i64 0)).setCell ⟨w.heap.size, 5, none⟩ (.slice none 0 0)) (w.heap.size + 1) 39 (dkC (.slice none 0 0) (false) (0) (0) (0) (.slice none 0 0) (0) (0) (0) (.slice none 0 0)) := (((((hr5.far (p := ⟨w.heap.size, 1, none⟩) (by show w.heap.size + 1 ≠ w.heap.size; omega) (.bool false)).far (p := ⟨w.heap.size, 2, none⟩) (by show w.heap.size + 1 ≠ w.heap.size; omega) (.int .i64 0)).far (p := ⟨w.heap.size, 3, none⟩) (by show w.heap.size + 1 ≠ w.heap.size; omega) (.int .i64 0)).far (p := ⟨w.heap.size, 4, none⟩) (by show w.heap.size + 1 ≠ w.heap.size; omega) (.int .i64 0)).far (p := ⟨w.heap.size, 5, none⟩) (by show w.heap.size + 1 ≠ w.heap.size; omega) (.slice none 0 0))
  have hl6 : Below w.heap.size w (((((W5.setCell ⟨w.heap.size, 1, none⟩ (.bool false)).setCell ⟨w.heap.size, 2, none⟩ (.int .i64 0)).setCell ⟨w.heap.size, 3, none⟩ (.int .i64 0)).setCell ⟨w.heap.size, 4, none⟩ (.int .i64 0)).setCell ⟨w.heap.size, 5, none⟩ (.slice none 0 0)) := (((((hl5.setCell (p := ⟨w.heap.size, 1, none⟩) (Nat.le_refl _) (.bool false)).setCell (p := ⟨w.heap.size, 2, none⟩) (Nat.le_refl _) (.int .i64 0)).setCell (p := ⟨w.heap.size, 3, none⟩) (Nat.le_refl _) (.int .i64 0)).setCell (p := ⟨w.heap.size, 4, none⟩) (Nat.le_refl _) (.int .i64 0)).setCell (p := ⟨w.heap.size, 5, none⟩) (Nat.le_refl _) (.slice none 0 0))
  have hw6 : Rw (w.heap.size + 1 + 1) (((((W5.setCell ⟨w.heap.size, 1, none⟩ (.bool false)).setCell ⟨w.heap.size, 2, none⟩ (.int .i64 0)).setCell ⟨w.heap.size, 3, none⟩ (.int .i64 0)).setCell ⟨w.heap.size, 4, none⟩ (.int .i64 0)).setCell ⟨w.heap.size, 5, none⟩ (.slice none 0 0)) (.slice a1 es.length k1) (.slice a2 cd.length k2) (.slice a3 ld.length k3) es es bs bs cd cd ld := hw5.turn (fun k h1 _ => by rw [Below.heap_setCell _ _ _ k (by show k ≠ w.heap.size; omega), Below.heap_setCell _ _ _ k (by show k ≠ w.heap.size; omega), Below.heap_setCell _ _ _ k (by show k ≠ w.heap.size; omega), Below.heap_setCell _ _ _ k (by show k ≠ w.heap.size; omega), Below.heap_setCell _ _ _ k (by show k ≠ w.heap.size; omega)])
  clear p0 p1 p2 p3 p4 p5 p6 p7 p8 p9 g0 g1 g2 g3 g4 g5 g6 g7 g8 g9 r0 r1 r2 r3 r4 r5 r6 r7 r8 r9 z0 z1 z2 z3 z4 z5 z6 z7 z8 z9 hk5 hr5 hl5 hw5
  generalize (((((W5.setCell ⟨w.heap.size, 1, none⟩ (.bool false)).setCell ⟨w.heap.size, 2, none⟩ (.int .i64 0)).setCell ⟨w.heap.size, 3, none⟩ (.int .i64 0)).setCell ⟨w.heap.size, 4, none⟩ (.int .i64 0)).setCell ⟨w.heap.size, 5, none⟩ (.slice none 0 0)) = W6 at *
  obtain ⟨⟨p0, p1, p2, p3, p4, p5, p6, p7, p8, p9⟩, g0, g1, g2, g3, g4, g5, g6, g7, g8, g9⟩ := Bk.fd hk6
  obtain ⟨⟨r0, r1, r2, r3, r4, r5, r6, r7, r8, r9⟩, z0, z1, z2, z3, z4, z5, z6, z7, z8, z9⟩ := Bk.fd hr6
  go_upto_region 14 with fail
  have hwA : w.heap.size + 1 + 1 ≤ W6.heap.size := by have := hr6.lt; omega
  have hkA : Bk (W6.alloc (.cells #[.int .i64 lt, .int .i64 la, .slice a3 ld.length k3] 35 (0, 0))) W6.heap.size 35 [.int .i64 lt, .int .i64 la, .slice a3 ld.length k3] := Bk.new W6 _ [.int .i64 lt, .int .i64 la, .slice a3 ld.length k3]
  have hk7 := hk6.alloc (.cells #[.int .i64 lt, .int .i64 la, .slice a3 ld.length k3] 35 (0, 0))
  have hr7 := hr6.alloc (.cells #[.int .i64 lt, .int .i64 la, .slice a3 ld.length k3] 35 (0, 0))
  have hl7 := hl6.alloc hl6.size (.cells #[.int .i64 lt, .int .i64 la, .slice a3 ld.length k3] 35 (0, 0))
  have hsl : Sl eb (W6.alloc (.cells #[.int .i64 lt, .int .i64 la, .slice a3 ld.length k3] 35 (0, 0))) (.slice a3 ld.length k3) ld := (Sl.ofOwn hw6.l).below (low_alloc _ _) (Nat.le_refl _)
  have hkeep : ∀ k, k < W6.heap.size → (W6.alloc (.cells #[.int .i64 lt, .int .i64 la, .slice a3 ld.length k3] 35 (0, 0))).heap[k]? = W6.heap[k]? := fun k hk => Below.heap_alloc _ _ k hk
  have hszA : (W6.alloc (.cells #[.int .i64 lt, .int .i64 la, .slice a3 ld.length k3] 35 (0, 0))).heap.size = W6.heap.size + 1 := by simp
  clear p0 p1 p2 p3 p4 p5 p6 p7 p8 p9 g0 g1 g2 g3 g4 g5 g6 g7 g8 g9 r0 r1 r2 r3 r4 r5 r6 r7 r8 r9 z0 z1 z2 z3 z4 z5 z6 z7 z8 z9 hk6 hr6 hl6
  generalize W6.alloc (.cells #[.int .i64 lt, .int .i64 la, .slice a3 ld.length k3] 35 (0, 0)) = W7 at *
  obtain ⟨bA, hbA⟩ : ∃ b, b = W6.heap.size := ⟨_, rfl⟩
  rw [← hbA] at hkA hwA hszA ⊢
  obtain ⟨e0, e1, e2⟩ : W7.cell? ⟨bA, 0, none⟩ = some (.int .i64 lt) ∧ W7.cell? ⟨bA, 1, none⟩ = some (.int .i64 la) ∧ W7.cell? ⟨bA, 2, none⟩ = some (.slice a3 ld.length k3) := ⟨hkA.cell 0, hkA.cell 1, hkA.cell 2⟩
  have HBA := Lib.hid hbA
  clear hbA
  have HBC : Hid (Calls Try.prog 45 #[.slice a3 ld.length k3] W7 fun e w' => ∃ v, e = .returned v ∧ w'.ownsRow W7.heap.size 5 1 v ld.length (ld.map eb) ∧ Below W7.heap.size W7 w') := bclone_w hsl (by have := HLD.out; omega)
  clear hsl
  go_upto_region 15 with (go_at_call 45; (with_reducible refine HBC.out.mono ?_); rintro e w8 ⟨v8, rfl, ho8, hb8⟩; obtain ⟨a4, k4, rfl⟩ := own_slice ho8; clear e0 e1 e2; obtain ⟨e0, e1, e2, x2⟩ : w8.cell? ⟨bA, 0, none⟩ = some (.int .i64 lt) ∧ w8.cell? ⟨bA, 1, none⟩ = some (.int .i64 la) ∧ w8.cell? ⟨bA, 2, none⟩ = some (.slice a3 ld.length k3) ∧ w8.frozen? ⟨bA, 2, none⟩ = false := ⟨(hkA.below hb8 hkA.lt).cell 0, (hkA.below hb8 hkA.lt).cell 1, (hkA.below hb8 hkA.lt).cell 2, (hkA.below hb8 hkA.lt).frozen 2⟩)
  have hkA9 : Bk (w8.setCell ⟨bA, 2, none⟩ (.slice a4 ld.length k4)) bA 35 [.int .i64 lt, .int .i64 la, .slice a4 ld.length k4] := (hkA.below hb8 hkA.lt).set 2 (.slice a4 ld.length k4)
  have hk9 : Bk (w8.setCell ⟨bA, 2, none⟩ (.slice a4 ld.length k4)) w.heap.size 39 (dkC (.slice a1 es.length k1) (false) (0) (0) (0) (.slice none 0 0) (0) (lt) (la) (.slice a3 ld.length k3)) := (hk7.below hb8 hk7.lt).far (p := ⟨bA, 2, none⟩) (by show w.heap.size ≠ bA; omega) (.slice a4 ld.length k4)
  have hr9 : Bk (w8.setCell ⟨bA, 2, none⟩ (.slice a4 ld.length k4)) (w.heap.size + 1) 39 (dkC (.slice none 0 0) (false) (0) (0) (0) (.slice none 0 0) (0) (0) (0) (.slice none 0 0)) := (hr7.below hb8 hr7.lt).far (p := ⟨bA, 2, none⟩) (by show w.heap.size + 1 ≠ bA; omega) (.slice a4 ld.length k4)
  have hl9 : Below w.heap.size w (w8.setCell ⟨bA, 2, none⟩ (.slice a4 ld.length k4)) := (stepAny hl7 hb8).setCell (p := ⟨bA, 2, none⟩) (by show w.heap.size ≤ bA; omega) (.slice a4 ld.length k4)
  have hw9 : Rw (w.heap.size + 1 + 1) (w8.setCell ⟨bA, 2, none⟩ (.slice a4 ld.length k4)) (.slice a1 es.length k1) (.slice a2 cd.length k2) (.slice a3 ld.length k3) es es bs bs cd cd ld := hw6.turn fun k h1 h2 => by
    have := HBA.out
    rw [Below.heap_setCell _ _ _ k (by show k ≠ bA; omega), hb8.block k (by omega), hkeep k h2]
  have ho9 : (w8.setCell ⟨bA, 2, none⟩ (.slice a4 ld.length k4)).ownsRow (w.heap.size + 1 + 1) 5 1 (.slice a4 ld.length k4) ld.length (ld.map eb) := own_keep (own_down ho8 (by omega)) fun k hk => Below.heap_setCell _ _ _ k (by have := (ho8.lt k hk).1; show k ≠ bA; omega)
  clear e0 e1 e2 x2 hkA hk7 hr7 hl7 hw6 hkeep hb8 ho8
  generalize w8.setCell ⟨bA, 2, none⟩ (.slice a4 ld.length k4) = W9 at *
  have HQ : Hid (∀ W, Below W9.heap.size W9 W → (FD W w.heap.size (.slice a1 es.length k1) (false) (0) (0) (0) (.slice none 0 0) (0) (lt) (la) (.slice a3 ld.length k3) ∧ FD W (w.heap.size + 1) (.slice none 0 0) (false) (0) (0) (0) (.slice none 0 0) (0) (0) (0) (.slice none 0 0)) ∧ W.cell? ⟨bA, 0, none⟩ = some (.int .i64 lt) ∧ W.cell? ⟨bA, 1, none⟩ = some (.int .i64 la) ∧ W.cell? ⟨bA, 2, none⟩ = some (.slice a4 ld.length k4)) := fun W hW =>
    ⟨⟨Bk.fd (hk9.below hW hk9.lt), Bk.fd (hr9.below hW hr9.lt)⟩, (hkA9.below hW hkA9.lt).cell 0, (hkA9.below hW hkA9.lt).cell 1, (hkA9.below hW hkA9.lt).cell 2⟩
  have hs9 : w.heap.size + 1 + 1 < W9.heap.size := by have := hkA9.lt; omega
  have hsW9 : w.heap.size ≤ W9.heap.size := by omega
  obtain ⟨⟨⟨⟨p0, p1, p2, p3, p4, p5, p6, p7, p8, p9⟩, -⟩, ⟨r0, r1, r2, r3, r4, r5, r6, r7, r8, r9⟩, z0, z1, z2, z3, z4, z5, z6, z7, z8, z9⟩, e0, e1, e2⟩ := HQ.out _ (low_refl W9)
  have hle : Below W9.heap.size W9 (W9.alloc (.cells #[.int .i64 lt, .int .i64 la, .slice a4 ld.length k4] 35 (0, 0))) := low_alloc W9 _
  obtain ⟨⟨⟨⟨q0, q1, q2, q3, q4, q5, q6, q7, q8, q9⟩, -⟩, ⟨v0, v1, v2, v3, v4, v5, v6, v7, v8, v9⟩, zv0, zv1, zv2, zv3, zv4, zv5, zv6, zv7, zv8, zv9⟩, n0, n1, n2⟩ := HQ.out _ hle
  have hbA9 := hkA9.lt
  have hAl : Below w.heap.size w (W9.alloc (.cells #[.int .i64 lt, .int .i64 la, .slice a4 ld.length k4] 35 (0, 0))) := hl9.alloc hl9.size _
  obtain ⟨Wf1, hWf1⟩ : ∃ W, W = (((((((((((W9.alloc (.cells #[.int .i64 lt, .int .i64 la, .slice a4 ld.length k4] 35 (0, 0))).setCell ⟨(w.heap.size + 1), 0, none⟩ (.slice a1 es.length k1)).setCell ⟨(w.heap.size + 1), 1, none⟩ (.bool false)).setCell ⟨(w.heap.size + 1), 2, none⟩ (.int .i64 0)).setCell ⟨(w.heap.size + 1), 3, none⟩ (.int .i64 0)).setCell ⟨(w.heap.size + 1), 4, none⟩ (.int .i64 0)).setCell ⟨(w.heap.size + 1), 5, none⟩ (.slice none 0 0)).setCell ⟨(w.heap.size + 1), 6, none⟩ (.int .i64 0)).setCell ⟨(w.heap.size + 1), 7, none⟩ (.int .i64 lt)).setCell ⟨(w.heap.size + 1), 8, none⟩ (.int .i64 la)).setCell ⟨(w.heap.size + 1), 9, none⟩ (.slice a3 ld.length k3)).drew := ⟨_, rfl⟩
  obtain ⟨Wf2, hWf2⟩ : ∃ W, W = (((((((((((W9.setCell ⟨(w.heap.size + 1), 0, none⟩ (.slice a1 es.length k1)).setCell ⟨(w.heap.size + 1), 1, none⟩ (.bool false)).setCell ⟨(w.heap.size + 1), 2, none⟩ (.int .i64 0)).setCell ⟨(w.heap.size + 1), 3, none⟩ (.int .i64 0)).setCell ⟨(w.heap.size + 1), 4, none⟩ (.int .i64 0)).setCell ⟨(w.heap.size + 1), 5, none⟩ (.slice none 0 0)).setCell ⟨(w.heap.size + 1), 6, none⟩ (.int .i64 0)).setCell ⟨(w.heap.size + 1), 7, none⟩ (.int .i64 lt)).setCell ⟨(w.heap.size + 1), 8, none⟩ (.int .i64 la)).setCell ⟨(w.heap.size + 1), 9, none⟩ (.slice a3 ld.length k3)).alloc (.cells #[.int .i64 lt, .int .i64 la, .slice a4 ld.length k4] 35 (0, 0))).drew := ⟨_, rfl⟩
  have hrf1 : Bk Wf1 (w.heap.size + 1) 39 (dkC (.slice a1 es.length k1) (false) (0) (0) (0) (.slice none 0 0) (0) (lt) (la) (.slice a3 ld.length k3)) := by rw [hWf1]; exact Bk.drew' ((hr9.alloc (.cells #[.int .i64 lt, .int .i64 la, .slice a4 ld.length k4] 35 (0, 0))).set10 (.slice a1 es.length k1) (.bool false) (.int .i64 0) (.int .i64 0) (.int .i64 0) (.slice none 0 0) (.int .i64 0) (.int .i64 lt) (.int .i64 la) (.slice a3 ld.length k3))
  have hlf1 : Below w.heap.size w Wf1 := by rw [hWf1]; exact (set10 (b := w.heap.size + 1) hAl (by omega) (.slice a1 es.length k1) (.bool false) (.int .i64 0) (.int .i64 0) (.int .i64 0) (.slice none 0 0) (.int .i64 0) (.int .i64 lt) (.int .i64 la) (.slice a3 ld.length k3)).drew
  have hkB1 : Bk Wf1 W9.heap.size 35 [.int .i64 lt, .int .i64 la, .slice a4 ld.length k4] := by rw [hWf1]; exact Bk.drew' <| (Bk.new W9 35 [.int .i64 lt, .int .i64 la, .slice a4 ld.length k4]).keep (set10_heap (W := W9.alloc (.cells #[.int .i64 lt, .int .i64 la, .slice a4 ld.length k4] 35 (0, 0))) (b := w.heap.size + 1) (by omega) (.slice a1 es.length k1) (.bool false) (.int .i64 0) (.int .i64 0) (.int .i64 0) (.slice none 0 0) (.int .i64 0) (.int .i64 lt) (.int .i64 la) (.slice a3 ld.length k3))
  have hwf1 : Rw (w.heap.size + 1 + 1) Wf1 (.slice a1 es.length k1) (.slice a2 cd.length k2) (.slice a3 ld.length k3) es es bs bs cd cd ld := by rw [hWf1]; exact Rw.drew <| hw9.turn fun k h1 h2 => (set10_heap (W := W9.alloc (.cells #[.int .i64 lt, .int .i64 la, .slice a4 ld.length k4] 35 (0, 0))) (b := w.heap.size + 1) (by omega) (.slice a1 es.length k1) (.bool false) (.int .i64 0) (.int .i64 0) (.int .i64 0) (.slice none 0 0) (.int .i64 0) (.int .i64 lt) (.int .i64 la) (.slice a3 ld.length k3)).trans (Below.heap_alloc _ _ k h2)
  have hof1 : Wf1.ownsRow (w.heap.size + 1 + 1) 5 1 (.slice a4 ld.length k4) ld.length (ld.map eb) := by rw [hWf1]; exact own_drew <| own_keep ho9 fun k hk => (set10_heap (W := W9.alloc (.cells #[.int .i64 lt, .int .i64 la, .slice a4 ld.length k4] 35 (0, 0))) (b := w.heap.size + 1) (by have := (ho9.lt k hk).1; omega) (.slice a1 es.length k1) (.bool false) (.int .i64 0) (.int .i64 0) (.int .i64 0) (.slice none 0 0) (.int .i64 0) (.int .i64 lt) (.int .i64 la) (.slice a3 ld.length k3)).trans (Below.heap_alloc _ _ k (ho9.lt k hk).2)
  have hsn : (((((((((((W9.setCell ⟨(w.heap.size + 1), 0, none⟩ (.slice a1 es.length k1)).setCell ⟨(w.heap.size + 1), 1, none⟩ (.bool false)).setCell ⟨(w.heap.size + 1), 2, none⟩ (.int .i64 0)).setCell ⟨(w.heap.size + 1), 3, none⟩ (.int .i64 0)).setCell ⟨(w.heap.size + 1), 4, none⟩ (.int .i64 0)).setCell ⟨(w.heap.size + 1), 5, none⟩ (.slice none 0 0)).setCell ⟨(w.heap.size + 1), 6, none⟩ (.int .i64 0)).setCell ⟨(w.heap.size + 1), 7, none⟩ (.int .i64 lt)).setCell ⟨(w.heap.size + 1), 8, none⟩ (.int .i64 la)).setCell ⟨(w.heap.size + 1), 9, none⟩ (.slice a3 ld.length k3))).heap.size = W9.heap.size := set10_size (.slice a1 es.length k1) (.bool false) (.int .i64 0) (.int .i64 0) (.int .i64 0) (.slice none 0 0) (.int .i64 0) (.int .i64 lt) (.int .i64 la) (.slice a3 ld.length k3)
  have hrf2 : Bk Wf2 (w.heap.size + 1) 39 (dkC (.slice a1 es.length k1) (false) (0) (0) (0) (.slice none 0 0) (0) (lt) (la) (.slice a3 ld.length k3)) := by rw [hWf2]; exact Bk.drew' <| (hr9.set10 (.slice a1 es.length k1) (.bool false) (.int .i64 0) (.int .i64 0) (.int .i64 0) (.slice none 0 0) (.int .i64 0) (.int .i64 lt) (.int .i64 la) (.slice a3 ld.length k3)).alloc (.cells #[.int .i64 lt, .int .i64 la, .slice a4 ld.length k4] 35 (0, 0))
  have hlf2 : Below w.heap.size w Wf2 := by rw [hWf2]; exact ((set10 (b := w.heap.size + 1) hl9 (by omega) (.slice a1 es.length k1) (.bool false) (.int .i64 0) (.int .i64 0) (.int .i64 0) (.slice none 0 0) (.int .i64 0) (.int .i64 lt) (.int .i64 la) (.slice a3 ld.length k3)).alloc (by rw [hsn]; omega) _).drew
  have hkB2 : Bk Wf2 W9.heap.size 35 [.int .i64 lt, .int .i64 la, .slice a4 ld.length k4] := by rw [hWf2]; exact Bk.drew' <| Bk.newAt ((((((((((W9.setCell ⟨(w.heap.size + 1), 0, none⟩ (.slice a1 es.length k1)).setCell ⟨(w.heap.size + 1), 1, none⟩ (.bool false)).setCell ⟨(w.heap.size + 1), 2, none⟩ (.int .i64 0)).setCell ⟨(w.heap.size + 1), 3, none⟩ (.int .i64 0)).setCell ⟨(w.heap.size + 1), 4, none⟩ (.int .i64 0)).setCell ⟨(w.heap.size + 1), 5, none⟩ (.slice none 0 0)).setCell ⟨(w.heap.size + 1), 6, none⟩ (.int .i64 0)).setCell ⟨(w.heap.size + 1), 7, none⟩ (.int .i64 lt)).setCell ⟨(w.heap.size + 1), 8, none⟩ (.int .i64 la)).setCell ⟨(w.heap.size + 1), 9, none⟩ (.slice a3 ld.length k3)) 35 [.int .i64 lt, .int .i64 la, .slice a4 ld.length k4] hsn.symm
  have hwf2 : Rw (w.heap.size + 1 + 1) Wf2 (.slice a1 es.length k1) (.slice a2 cd.length k2) (.slice a3 ld.length k3) es es bs bs cd cd ld := by rw [hWf2]; exact Rw.drew <| hw9.turn fun k h1 h2 => (Below.heap_alloc ((((((((((W9.setCell ⟨(w.heap.size + 1), 0, none⟩ (.slice a1 es.length k1)).setCell ⟨(w.heap.size + 1), 1, none⟩ (.bool false)).setCell ⟨(w.heap.size + 1), 2, none⟩ (.int .i64 0)).setCell ⟨(w.heap.size + 1), 3, none⟩ (.int .i64 0)).setCell ⟨(w.heap.size + 1), 4, none⟩ (.int .i64 0)).setCell ⟨(w.heap.size + 1), 5, none⟩ (.slice none 0 0)).setCell ⟨(w.heap.size + 1), 6, none⟩ (.int .i64 0)).setCell ⟨(w.heap.size + 1), 7, none⟩ (.int .i64 lt)).setCell ⟨(w.heap.size + 1), 8, none⟩ (.int .i64 la)).setCell ⟨(w.heap.size + 1), 9, none⟩ (.slice a3 ld.length k3)) _ k (by rw [hsn]; exact h2)).trans (set10_heap (W := W9) (b := w.heap.size + 1) (by omega) (.slice a1 es.length k1) (.bool false) (.int .i64 0) (.int .i64 0) (.int .i64 0) (.slice none 0 0) (.int .i64 0) (.int .i64 lt) (.int .i64 la) (.slice a3 ld.length k3))
  have hof2 : Wf2.ownsRow (w.heap.size + 1 + 1) 5 1 (.slice a4 ld.length k4) ld.length (ld.map eb) := by rw [hWf2]; exact own_drew <| own_keep ho9 fun k hk => (Below.heap_alloc ((((((((((W9.setCell ⟨(w.heap.size + 1), 0, none⟩ (.slice a1 es.length k1)).setCell ⟨(w.heap.size + 1), 1, none⟩ (.bool false)).setCell ⟨(w.heap.size + 1), 2, none⟩ (.int .i64 0)).setCell ⟨(w.heap.size + 1), 3, none⟩ (.int .i64 0)).setCell ⟨(w.heap.size + 1), 4, none⟩ (.int .i64 0)).setCell ⟨(w.heap.size + 1), 5, none⟩ (.slice none 0 0)).setCell ⟨(w.heap.size + 1), 6, none⟩ (.int .i64 0)).setCell ⟨(w.heap.size + 1), 7, none⟩ (.int .i64 lt)).setCell ⟨(w.heap.size + 1), 8, none⟩ (.int .i64 la)).setCell ⟨(w.heap.size + 1), 9, none⟩ (.slice a3 ld.length k3)) _ k (by rw [hsn]; exact (ho9.lt k hk).2)).trans (set10_heap (W := W9) (b := w.heap.size + 1) (by have := (ho9.lt k hk).1; omega) (.slice a1 es.length k1) (.bool false) (.int .i64 0) (.int .i64 0) (.int .i64 0) (.slice none 0 0) (.int .i64 0) (.int .i64 lt) (.int .i64 la) (.slice a3 ld.length k3))
  have HWf1 := Lib.hid hWf1
  have HWf2 := Lib.hid hWf2
  clear hWf1 hWf2
  have HXX := Lib.hid hX
  go_region
  all_goals first
    | (rw [← HWf1.out]; clear hrf2 hlf2 hkB2 hwf2 hof2 hsn p0 p1 p2 p3 p4 p5 p6 p7 p8 p9 r0 r1 r2 r3 r4 r5 r6 r7 r8 r9 z0 z1 z2 z3 z4 z5 z6 z7 z8 z9 e0 e1 e2 n0 n1 n2 q0 q1 q2 q3 q4 q5 q6 q7 q8 q9 v0 v1 v2 v3 v4 v5 v6 v7 v8 v9 zv0 zv1 zv2 zv3 zv4 zv5 zv6 zv7 zv8 zv9 hk9 hr9 hl9 hw9 ho9 hkA9 hle hAl HQ HWf1 HWf2; obtain ⟨⟨r0, r1, r2, r3, r4, r5, r6, r7, r8, r9⟩, -⟩ := Bk.fd hrf1; go_wp2_with fail; exact bodyPost_ret (v := .tuple #[.agg #[.slice a1 es.length k1, .bool false, .int .i64 0, .int .i64 0, .int .i64 0, .slice none 0 0, .int .i64 0, .int .i64 lt, .int .i64 la, .slice a3 ld.length k3], .slice (some ⟨W9.heap.size, 0, none⟩) 1 1]) (by simp [results, Try.results20, go_sem, r0, r1, r2, r3, r4, r5, r6, r7, r8, r9]) rfl ⟨_, _, _, es, _, rfl, Dw.down (B' := w.heap.size) (hwf1.dropC.dw (fun b hb => by have := HXX.out b hb; omega) HN.out (HE.out.below hlf1)) (Nat.le_succ_of_le (Nat.le_succ _)), ⟨W9.heap.size, _, rfl, hsW9, hkB1, own_down (base' := w.heap.size) hof1 (Nat.le_succ_of_le (Nat.le_succ _))⟩, hlf1⟩)
    | (rw [← HWf2.out]; clear hrf1 hlf1 hkB1 hwf1 hof1 hsn p0 p1 p2 p3 p4 p5 p6 p7 p8 p9 r0 r1 r2 r3 r4 r5 r6 r7 r8 r9 z0 z1 z2 z3 z4 z5 z6 z7 z8 z9 e0 e1 e2 n0 n1 n2 q0 q1 q2 q3 q4 q5 q6 q7 q8 q9 v0 v1 v2 v3 v4 v5 v6 v7 v8 v9 zv0 zv1 zv2 zv3 zv4 zv5 zv6 zv7 zv8 zv9 hk9 hr9 hl9 hw9 ho9 hkA9 hle hAl HQ HWf1 HWf2; obtain ⟨⟨r0, r1, r2, r3, r4, r5, r6, r7, r8, r9⟩, -⟩ := Bk.fd hrf2; go_wp2_with fail; exact bodyPost_ret (v := .tuple #[.agg #[.slice a1 es.length k1, .bool false, .int .i64 0, .int .i64 0, .int .i64 0, .slice none 0 0, .int .i64 0, .int .i64 lt, .int .i64 la, .slice a3 ld.length k3], .slice (some ⟨W9.heap.size, 0, none⟩) 1 1]) (by simp [results, Try.results20, go_sem, r0, r1, r2, r3, r4, r5, r6, r7, r8, r9]) rfl ⟨_, _, _, es, _, rfl, Dw.down (B' := w.heap.size) (hwf2.dropC.dw (fun b hb => by have := HXX.out b hb; omega) HN.out (HE.out.below hlf2)) (Nat.le_succ_of_le (Nat.le_succ _)), ⟨W9.heap.size, _, rfl, hsW9, hkB2, own_down (base' := w.heap.size) hof2 (Nat.le_succ_of_le (Nat.le_succ _))⟩, hlf2⟩)
end Go.Proofs.Yteeoonoccklhmaa
