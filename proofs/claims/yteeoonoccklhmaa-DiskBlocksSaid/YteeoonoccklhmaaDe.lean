/-
  The walk of copied.
-/
import Derived.Test.YteeoonoccklhmaaDd
import Derived.Test.YteeoonoccklhmaaByt
import Derived.Deep.DeepCutAuto
namespace Go.Proofs.Yteeoonoccklhmaa
open Go.RowKit

/-- All cells and marks of a disk's box. -/
def FD (W : World) (b : Nat) (ub : Value) (o : Bool) (ct co cp : Int) (uc : Value) (l lt la : Int) (ul : Value) : Prop :=
  BoxD W b ub o ct co cp uc l lt la ul ∧ FrzD W b
theorem Bk.fd {W : World} {b : Nat} {T : TypeId} {ub : Value} {o : Bool} {ct co cp : Int} {uc : Value} {l lt la : Int} {ul : Value} (h : Bk W b T (dkC ub o ct co cp uc l lt la ul)) : FD W b ub o ct co cp uc l lt la ul := ⟨h.boxD, h.frzD⟩

set_option maxRecDepth 100000 in
set_option maxHeartbeats 1600000 in
theorem copied_w (o : Bool) (ct co cp l lt la : Int) {ub uc ul : Value} {es : List Tr} {bs : List (List UInt8)} {cd ld : List UInt8} {w : World} {X : Nat → Prop} (hd : De w ub uc ul es bs cd ld) (hE : Av X (fun W => ∀ i (h : i < es.length) (h' : i < bs.length), Sl eb W (et es[i]) bs[i]) w)
    (hes : es.length ≤ 1000) (hcd : cd.length ≤ 1000) (hld : ld.length ≤ 1000) :
    Calls Try.prog 30 #[.agg #[ub, .bool o, .int .i64 ct, .int .i64 co, .int .i64 cp, uc, .int .i64 l, .int .i64 lt, .int .i64 la, ul]] w fun e w' => ∃ ub' uc' ul', e = .returned (.agg #[ub', .bool o, .int .i64 ct, .int .i64 co, .int .i64 cp, uc', .int .i64 l, .int .i64 lt, .int .i64 la, ul']) ∧ Dw w.heap.size X w' ub' uc' ul' es bs cd ld ∧ Below w.heap.size w w' := by
  obtain ⟨aub, cub, hub, -⟩ := id hd.r
  obtain ⟨auc, cuc, huc, -⟩ := id hd.c
  obtain ⟨aul, cul, hul, -⟩ := id hd.l
  subst hub huc hul
  obtain ⟨W0, hW0⟩ : ∃ W0, W0 = (w.alloc (.cells #[.slice aub es.length cub, .bool o, .int .i64 ct, .int .i64 co, .int .i64 cp, .slice auc cd.length cuc, .int .i64 l, .int .i64 lt, .int .i64 la, .slice aul ld.length cul] 39 (0, 0))).alloc (.cells #[.slice none 0 0, .bool false, .int .i64 0, .int .i64 0, .int .i64 0, .slice none 0 0, .int .i64 0, .int .i64 0, .int .i64 0, .slice none 0 0] 39 (0, 0)) := ⟨_, rfl⟩
  have hK : Bk W0 w.heap.size 39 (dkC (.slice aub es.length cub) o ct co cp (.slice auc cd.length cuc) l lt la (.slice aul ld.length cul)) := by rw [hW0]; exact (Bk.new w _ (dkC _ _ _ _ _ _ _ _ _ _)).alloc _
  have hR : Bk W0 (w.heap.size + 1) 39 (dkC (.slice none 0 0) false 0 0 0 (.slice none 0 0) 0 0 0 (.slice none 0 0)) := by rw [hW0]; exact Bk.newAt _ _ (dkC _ _ _ _ _ _ _ _ _ _) (by simp)
  have hL : Below w.heap.size w W0 := by rw [hW0]; exact (low_alloc _ _).alloc (by simp) _
  have hsz : W0.heap.size = w.heap.size + 1 + 1 := by rw [hW0]; simp
  have hPC : ∀ W, Below w.heap.size w W → Calls Try.prog 49 #[.slice aub es.length cub] W fun e w' => ∃ v, e = .returned v ∧ w'.ownsRow W.heap.size 23 1 v es.length (es.map et) ∧ Below W.heap.size W w' := fun W hW => pclone_w (hd.r.below hW (Nat.le_refl _)) (by omega)
  have hBC : ∀ W, Below w.heap.size w W → Calls Try.prog 45 #[.slice auc cd.length cuc] W fun e w' => ∃ v, e = .returned v ∧ w'.ownsRow W.heap.size 5 1 v cd.length (cd.map eb) ∧ Below W.heap.size W w' := fun W hW => bclone_w (hd.c.below hW (Nat.le_refl _)) (by omega)
  have hBL : ∀ W, Below w.heap.size w W → Calls Try.prog 45 #[.slice aul ld.length cul] W fun e w' => ∃ v, e = .returned v ∧ w'.ownsRow W.heap.size 5 1 v ld.length (ld.map eb) ∧ Below W.heap.size W w' := fun W hW => bclone_w (hd.l.below hW (Nat.le_refl _)) (by omega)
  have HPC := Lib.hid hPC
  have HBC := Lib.hid hBC
  have HBL := Lib.hid hBL
  have HL := Lib.hid hL
  have HK := Lib.hid hK
  have HR := Lib.hid hR
  have HSZ := Lib.hid hsz
  have HH := Lib.hid hE
  have HN := Lib.hid hd.n
  obtain ⟨⟨p0, p1, p2, p3, p4, p5, p6, p7, p8, p9⟩, -⟩ := hK.fd
  clear hPC hBC hBL hd hE hL hK hR hes hcd hld
  go_enter Try.func30, Try.ntmps30
  go_upto_region 1 with fail
  rw [← hW0]
  clear hW0
  go_upto_region 2 with (go_at_call 49; (with_reducible refine (HPC.out _ HL.out).mono ?_); rintro e w1 ⟨v1, rfl, ho1, hb1⟩; obtain ⟨aP, kP, rfl⟩ := own_slice ho1; have hk1 := HK.out.below hb1 HK.out.lt; obtain ⟨⟨q0, q1, q2, q3, q4, q5, q6, q7, q8, q9⟩, z0, -⟩ := hk1.fd)
  have hK1 : Bk (w1.setCell ⟨w.heap.size, 0, none⟩ (.slice aP es.length kP)) w.heap.size 39 (dkC (.slice aP es.length kP) o ct co cp (.slice auc cd.length cuc) l lt la (.slice aul ld.length cul)) := hk1.set 0 _
  have hR1 := (HR.out.below hb1 HR.out.lt).far (p := ⟨w.heap.size, 0, none⟩) (by simp) (.slice aP es.length kP)
  have hl1 : Below w.heap.size w (w1.setCell ⟨w.heap.size, 0, none⟩ (.slice aP es.length kP)) := (stepAny HL.out hb1).setCell (Nat.le_refl _) _
  have hg1 : ∀ k, (Value.slice aP es.length kP).ownBlock = some k → w.heap.size + 2 ≤ k := fun k hk => by have := (ho1.lt k hk).1; have := HSZ.out; omega
  have hO1 : (w1.setCell ⟨w.heap.size, 0, none⟩ (.slice aP es.length kP)).ownsRow w.heap.size 23 1 (.slice aP es.length kP) es.length (es.map et) := own_keep (own_down ho1 (by have := HSZ.out; omega)) fun k hk => Below.heap_setCell _ _ _ _ (by have := hg1 k hk; show k ≠ w.heap.size; omega)
  generalize w1.setCell ⟨w.heap.size, 0, none⟩ (.slice aP es.length kP) = S1 at *
  clear p0 p1 p2 p3 p4 p5 p6 p7 p8 p9 q0 q1 q2 q3 q4 q5 q6 q7 q8 q9 z0 hk1 ho1 hb1
  obtain ⟨⟨p0, p1, p2, p3, p4, p5, p6, p7, p8, p9⟩, -⟩ := hK1.fd
  go_upto_region 3 with (go_at_call 45; (with_reducible refine (HBC.out _ hl1).mono ?_); rintro e w2 ⟨v2, rfl, ho2, hb2⟩; obtain ⟨aQ, kQ, rfl⟩ := own_slice ho2; have hk2 := hK1.below hb2 hK1.lt; obtain ⟨⟨q0, q1, q2, q3, q4, q5, q6, q7, q8, q9⟩, -, -, -, -, -, z5, -⟩ := hk2.fd)
  have hK2 : Bk (w2.setCell ⟨w.heap.size, 5, none⟩ (.slice aQ cd.length kQ)) w.heap.size 39 (dkC (.slice aP es.length kP) o ct co cp (.slice aQ cd.length kQ) l lt la (.slice aul ld.length cul)) := hk2.set 5 _
  have hR2 := (hR1.below hb2 hR1.lt).far (p := ⟨w.heap.size, 5, none⟩) (by simp) (.slice aQ cd.length kQ)
  have hl2 : Below w.heap.size w (w2.setCell ⟨w.heap.size, 5, none⟩ (.slice aQ cd.length kQ)) := (stepAny hl1 hb2).setCell (Nat.le_refl _) _
  have hg2 : ∀ k, (Value.slice aQ cd.length kQ).ownBlock = some k → w.heap.size + 2 ≤ k := fun k hk => by have := (ho2.lt k hk).1; have := hR1.lt; omega
  have hO2 : (w2.setCell ⟨w.heap.size, 5, none⟩ (.slice aQ cd.length kQ)).ownsRow w.heap.size 5 1 (.slice aQ cd.length kQ) cd.length (cd.map eb) := own_keep (own_down ho2 hl1.size) fun k hk => Below.heap_setCell _ _ _ _ (by have := hg2 k hk; show k ≠ w.heap.size; omega)
  have hO12 := own_keep (own_keep hO1 fun k hk => hb2.block k (hO1.lt k hk).2) fun k hk => Below.heap_setCell w2 ⟨w.heap.size, 5, none⟩ (.slice aQ cd.length kQ) k (by have := hg1 k hk; show k ≠ w.heap.size; omega)
  generalize w2.setCell ⟨w.heap.size, 5, none⟩ (.slice aQ cd.length kQ) = S2 at *
  clear p0 p1 p2 p3 p4 p5 p6 p7 p8 p9 q0 q1 q2 q3 q4 q5 q6 q7 q8 q9 z5 hk2 ho2 hb2 hK1 hR1 hl1 hO1
  obtain ⟨⟨p0, p1, p2, p3, p4, p5, p6, p7, p8, p9⟩, -⟩ := hK2.fd
  go_upto_region 4 with (go_at_call 45; (with_reducible refine (HBL.out _ hl2).mono ?_); rintro e w3 ⟨v3, rfl, ho3, hb3⟩; obtain ⟨aR, kR, rfl⟩ := own_slice ho3; have hk3 := hK2.below hb3 hK2.lt; obtain ⟨⟨q0, q1, q2, q3, q4, q5, q6, q7, q8, q9⟩, -, -, -, -, -, -, -, -, -, z9⟩ := hk3.fd)
  have hK3 : Bk (w3.setCell ⟨w.heap.size, 9, none⟩ (.slice aR ld.length kR)) w.heap.size 39 (dkC (.slice aP es.length kP) o ct co cp (.slice aQ cd.length kQ) l lt la (.slice aR ld.length kR)) := hk3.set 9 _
  have hR3 := (hR2.below hb3 hR2.lt).far (p := ⟨w.heap.size, 9, none⟩) (by simp) (.slice aR ld.length kR)
  have hl3 : Below w.heap.size w (w3.setCell ⟨w.heap.size, 9, none⟩ (.slice aR ld.length kR)) := (stepAny hl2 hb3).setCell (Nat.le_refl _) _
  have hg3 : ∀ k, (Value.slice aR ld.length kR).ownBlock = some k → w.heap.size + 2 ≤ k := fun k hk => by have := (ho3.lt k hk).1; have := hR2.lt; omega
  have hO3 : (w3.setCell ⟨w.heap.size, 9, none⟩ (.slice aR ld.length kR)).ownsRow w.heap.size 5 1 (.slice aR ld.length kR) ld.length (ld.map eb) := own_keep (own_down ho3 hl2.size) fun k hk => Below.heap_setCell _ _ _ _ (by have := hg3 k hk; show k ≠ w.heap.size; omega)
  have hO13 := own_keep (own_keep hO12 fun k hk => hb3.block k (hO12.lt k hk).2) fun k hk => Below.heap_setCell w3 ⟨w.heap.size, 9, none⟩ (.slice aR ld.length kR) k (by have := hg1 k hk; show k ≠ w.heap.size; omega)
  have hO23 := own_keep (own_keep hO2 fun k hk => hb3.block k (hO2.lt k hk).2) fun k hk => Below.heap_setCell w3 ⟨w.heap.size, 9, none⟩ (.slice aR ld.length kR) k (by have := hg2 k hk; show k ≠ w.heap.size; omega)
  generalize w3.setCell ⟨w.heap.size, 9, none⟩ (.slice aR ld.length kR) = S3 at *
  clear p0 p1 p2 p3 p4 p5 p6 p7 p8 p9 q0 q1 q2 q3 q4 q5 q6 q7 q8 q9 z9 hk3 ho3 hb3 hK2 hR2 hl2 hO12 hO2
  obtain ⟨⟨p0, p1, p2, p3, p4, p5, p6, p7, p8, p9⟩, -⟩ := hK3.fd
  obtain ⟨⟨r0, r1, r2, r3, r4, r5, r6, r7, r8, r9⟩, z0, z1, z2, z3, z4, z5, z6, z7, z8, z9⟩ := Bk.fd hR3
  go_wp2_with fail
  refine bodyPost_ret (v := .agg #[.slice aP es.length kP, .bool o, .int .i64 ct, .int .i64 co, .int .i64 cp, .slice aQ cd.length kQ, .int .i64 l, .int .i64 lt, .int .i64 la, .slice aR ld.length kR]) (by simp [results, Try.results30, go_sem, r0, r1, r2, r3, r4, r5, r6, r7, r8, r9]) rfl ⟨_, _, _, rfl, ?_, ?_⟩
  · have hs3 := hl3.size
    refine ⟨own_keep hO13 fun k hk => set10_heap (by have := hg1 k hk; omega) _ _ _ _ _ _ _ _ _ _, HN.out, ?_, own_keep hO23 fun k hk => set10_heap (by have := hg2 k hk; omega) _ _ _ _ _ _ _ _ _ _, own_keep hO3 fun k hk => set10_heap (by have := hg3 k hk; omega) _ _ _ _ _ _ _ _ _ _⟩
    refine HH.out.keep (by rw [set10_size]; exact hs3) fun b hb _ => ?_
    rw [set10_heap (by omega)]
    exact hl3.block b hb
  · exact set10 hl3 (by omega) _ _ _ _ _ _ _ _ _ _
end Go.Proofs.Yteeoonoccklhmaa
