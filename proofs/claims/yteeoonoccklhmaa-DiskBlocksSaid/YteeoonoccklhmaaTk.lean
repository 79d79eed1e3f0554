/-
  The walk of Tick of disk (printed by gen/mk11tick.py).
-/
import Derived.Test.YteeoonoccklhmaaAnr
namespace Go.Proofs.Yteeoonoccklhmaa
open Go.RowKit

/-- Answers as they come back: none, or one. -/
def AnsV (B : Nat) (W : World) (v : Value) : List Dk.An → Prop
  | [] => v = .slice none 0 0
  | [a] => ∃ b u, v = .slice (some ⟨b, 0, none⟩) 1 1 ∧ B ≤ b ∧ Bk W b 35 [.int .i64 a.1, .int .i64 a.2.1, u] ∧ W.ownsRow B 5 1 u a.2.2.length (a.2.2.map eb)
  | _ => False
/-- What Tick returns. -/
def RetTk (w : World) (X : Nat → Prop) (r : Dk.St × List Dk.An) (e : Ending) (w' : World) : Prop :=
  ∃ ub uc ul es v, e = .returned (.tuple #[.agg #[ub, .bool r.1.2.1, .int .i64 r.1.2.2.1.1, .int .i64 r.1.2.2.1.2.1, .int .i64 r.1.2.2.1.2.2.1, uc, .int .i64 r.1.2.2.2.1, .int .i64 r.1.2.2.2.2.1, .int .i64 r.1.2.2.2.2.2.1, ul], v]) ∧ Dw w.heap.size X w' ub uc ul es r.1.1 r.1.2.2.1.2.2.2 r.1.2.2.2.2.2.2 ∧ AnsV w.heap.size w' v r.2 ∧ Below w.heap.size w w'

section
variable {W W' : World} {ub uc ul : Value} {es : List Tr} {bs : List (List UInt8)} {cd ld : List UInt8} {X : Nat → Prop} {B : Nat}
theorem Dw.turn (h : Dw B X W ub uc ul es bs cd ld) (hk : ∀ k, B ≤ k → k < W.heap.size → W'.heap[k]? = W.heap[k]?) (hE : Av X (fun W => ∀ i (h : i < es.length) (h' : i < bs.length), Sl eb W (et es[i]) bs[i]) W') : Dw B X W' ub uc ul es bs cd ld :=
  ⟨own_keep h.r fun k hk' => hk k (h.r.lt k hk').1 (h.r.lt k hk').2, h.n, hE, own_keep h.c fun k hk' => hk k (h.c.lt k hk').1 (h.c.lt k hk').2, own_keep h.l fun k hk' => hk k (h.l.lt k hk').1 (h.l.lt k hk').2⟩
end
section
variable {bs : List (List UInt8)} {o : Bool} {ct co cp l lt la : Int} {cd ld : List UInt8}
theorem tick_A (hv : Dk.valid (bs, (o, (ct, co, cp, cd), l, (lt, la, ld))) = false) : Dk.tick (bs, (o, (ct, co, cp, cd), l, (lt, la, ld))) = (Dk.zst, []) := by unfold Dk.tick; rw [if_pos hv]
theorem tick_B (hv : Dk.valid (bs, (false, (ct, co, cp, cd), l, (lt, la, ld))) = true) : Dk.tick (bs, (false, (ct, co, cp, cd), l, (lt, la, ld))) = ((bs, (false, (ct, co, cp, cd), l, (lt, la, ld))), []) := by unfold Dk.tick; simp [hv]
theorem tick_C (hv : Dk.valid (bs, (true, (ct, co, cp, cd), l, (lt, la, ld))) = true) (h : 1 < l) : Dk.tick (bs, (true, (ct, co, cp, cd), l, (lt, la, ld))) = ((bs, (true, (ct, co, cp, cd), l - 1, (lt, la, ld))), []) := by unfold Dk.tick; simp [hv, h]
theorem tick_D (hv : Dk.valid (bs, (true, (ct, co, cp, cd), l, (ct, la, ld))) = true) (h : ¬ 1 < l) : Dk.tick (bs, (true, (ct, co, cp, cd), l, (ct, la, ld))) = ((bs, (false, (0, 0, 0, []), 0, (ct, la, ld))), [(ct, la, ld)]) := by unfold Dk.tick; simp [hv, h]; rfl
theorem tick_E (hv : Dk.valid (bs, (true, (ct, co, cp, cd), l, (lt, la, ld))) = true) (h : ¬ 1 < l) (hne : ct ≠ lt) : Dk.tick (bs, (true, (ct, co, cp, cd), l, (lt, la, ld))) = (((Dk.answer bs (ct, co, cp, cd)).2, (false, (0, 0, 0, []), 0, (Dk.answer bs (ct, co, cp, cd)).1)), [(Dk.answer bs (ct, co, cp, cd)).1]) := by unfold Dk.tick; simp [hv, h, hne]; rfl
theorem valid_parts (hv : Dk.valid (bs, (true, (ct, co, cp, cd), l, (lt, la, ld))) = true) : bs.length = 160 ∧ (∀ b ∈ bs, b.length = 128) ∧ 1 ≤ l ∧ l ≤ 3 := by
  unfold Dk.valid Dk.all128 Dk.validC at hv
  simp only [Bool.and_eq_true, decide_eq_true_eq, List.all_eq_true] at hv
  obtain ⟨h1, h2, h3⟩ := hv
  split at h2
  · cases h2
  · simp only [if_true, Bool.and_eq_true, decide_eq_true_eq] at h2
    exact ⟨h1, h3, h2.2.2.1, h2.2.2.2⟩
end

set_option maxRecDepth 100000 in
set_option maxHeartbeats 8000000 in
theorem tick_A_w (o : Bool) (ct co cp l lt la : Int) {ub uc ul : Value} {es : List Tr} {bs : List (List UInt8)} {cd ld : List UInt8} {w : World} {X : Nat → Prop} (hd : De w ub uc ul es bs cd ld) (hE : Av X (fun W => ∀ i (h : i < es.length) (h' : i < bs.length), Sl eb W (et es[i]) bs[i]) w)
    (hes : es.length ≤ 1000) (hcd : cd.length ≤ 1000) (hld : ld.length ≤ 1000) (hv : Dk.valid (bs, (o, (ct, co, cp, cd), l, (lt, la, ld))) = false) :
    Calls Try.prog 20 #[.agg #[ub, .bool o, .int .i64 ct, .int .i64 co, .int .i64 cp, uc, .int .i64 l, .int .i64 lt, .int .i64 la, ul]] w (RetTk w X (Dk.tick (bs, (o, (ct, co, cp, cd), l, (lt, la, ld))))) := by
  obtain ⟨aub, cub, hub, -⟩ := id hd.r
  obtain ⟨auc, cuc, huc, -⟩ := id hd.c
  obtain ⟨aul, cul, hul, -⟩ := id hd.l
  subst hub huc hul
  obtain ⟨W0, hW0⟩ : ∃ W0, W0 = (w.alloc (.cells #[.slice aub es.length cub, .bool o, .int .i64 ct, .int .i64 co, .int .i64 cp, .slice auc cd.length cuc, .int .i64 l, .int .i64 lt, .int .i64 la, .slice aul ld.length cul] 39 (0, 0))).alloc (.cells #[.slice none 0 0, .bool false, .int .i64 0, .int .i64 0, .int .i64 0, .slice none 0 0, .int .i64 0, .int .i64 0, .int .i64 0, .slice none 0 0] 39 (0, 0)) := ⟨_, rfl⟩
  have hsz0 : W0.heap.size = w.heap.size + 1 + 1 := by rw [hW0]; simp
  have hK : Bk W0 w.heap.size 39 (dkC (.slice aub es.length cub) (o) (ct) (co) (cp) (.slice auc cd.length cuc) (l) (lt) (la) (.slice aul ld.length cul)) := by rw [hW0]; exact (Bk.new w _ (dkC _ _ _ _ _ _ _ _ _ _)).alloc _
  have hR : Bk W0 (w.heap.size + 1) 39 (dkC (.slice none 0 0) (false) (0) (0) (0) (.slice none 0 0) (0) (0) (0) (.slice none 0 0)) := by rw [hW0]; exact Bk.newAt _ _ (dkC _ _ _ _ _ _ _ _ _ _) (by simp)
  have hL : Below w.heap.size w W0 := by rw [hW0]; exact (low_alloc _ _).alloc (by simp) _
  have HV : Hid (∀ W, Below w.heap.size w W → Calls Try.prog 17 #[.agg #[.slice aub es.length cub, .bool o, .int .i64 ct, .int .i64 co, .int .i64 cp, .slice auc cd.length cuc, .int .i64 l, .int .i64 lt, .int .i64 la, .slice aul ld.length cul]] W fun e w' => e = .returned (.bool (Dk.valid (bs, (o, (ct, co, cp, cd), l, (lt, la, ld))))) ∧ Below W.heap.size W w') := fun W hW => dvalid_w o ct co cp l lt la (hd.dr.below hW (Nat.le_refl _))
  have HCP : Hid (∀ W, Below w.heap.size w W → Calls Try.prog 30 #[.agg #[.slice aub es.length cub, .bool o, .int .i64 ct, .int .i64 co, .int .i64 cp, .slice auc cd.length cuc, .int .i64 l, .int .i64 lt, .int .i64 la, .slice aul ld.length cul]] W fun e w' => ∃ ub' uc' ul', e = .returned (.agg #[ub', .bool o, .int .i64 ct, .int .i64 co, .int .i64 cp, uc', .int .i64 l, .int .i64 lt, .int .i64 la, ul']) ∧ Dw W.heap.size X w' ub' uc' ul' es bs cd ld ∧ Below W.heap.size W w') := fun W hW => copied_w o ct co cp l lt la (hd.below hW (Nat.le_refl _)) (hE.below hW) hes hcd hld
  have HE := Lib.hid hE
  have HN := Lib.hid hd.n
  have HL := Lib.hid hL
  have HR := Lib.hid hR
  have HK := Lib.hid hK
  have HSZ := Lib.hid hsz0
  have HCD := Lib.hid hcd
  have HLD := Lib.hid hld
  clear hd hE hes hcd hld hK hR hL hsz0
  have HW0 := Lib.hid hW0
  clear hW0
  rw [tick_A hv]
  rw [hv] at HV
  clear hv
  go_enter Try.func20, Try.ntmps20
  go_upto_region 1 with fail
  rw [← HW0.out]
  obtain ⟨⟨p0, p1, p2, p3, p4, p5, p6, p7, p8, p9⟩, -⟩ := Bk.fd HK.out
  go_wp2_with (go_at_call 17; (with_reducible refine (HV.out _ HL.out).mono ?_); rintro e w1 ⟨rfl, hb1⟩; have hl1 := stepAny HL.out hb1; clear p0 p1 p2 p3 p4 p5 p6 p7 p8 p9; obtain ⟨⟨p0, p1, p2, p3, p4, p5, p6, p7, p8, p9⟩, g0, g1, g2, g3, g4, g5, g6, g7, g8, g9⟩ := Bk.fd (HK.out.below hb1 HK.out.lt); obtain ⟨⟨r0, r1, r2, r3, r4, r5, r6, r7, r8, r9⟩, z0, z1, z2, z3, z4, z5, z6, z7, z8, z9⟩ := Bk.fd (HR.out.below hb1 HR.out.lt))
  have hs := HSZ.out
  exact bodyPost_ret (v := .tuple #[.agg #[.slice none 0 0, .bool false, .int .i64 0, .int .i64 0, .int .i64 0, .slice none 0 0, .int .i64 0, .int .i64 0, .int .i64 0, .slice none 0 0], .slice none 0 0]) (by simp [results, Try.results20, go_sem, r0, r1, r2, r3, r4, r5, r6, r7, r8, r9]) rfl ⟨_, _, _, _, _, rfl, Dw.nil, rfl, set10 hl1 (by omega) _ _ _ _ _ _ _ _ _ _⟩

set_option maxRecDepth 100000 in
set_option maxHeartbeats 8000000 in
theorem tick_B_w (o : Bool) (ct co cp l lt la : Int) {ub uc ul : Value} {es : List Tr} {bs : List (List UInt8)} {cd ld : List UInt8} {w : World} {X : Nat → Prop} (hd : De w ub uc ul es bs cd ld) (hE : Av X (fun W => ∀ i (h : i < es.length) (h' : i < bs.length), Sl eb W (et es[i]) bs[i]) w)
    (hes : es.length ≤ 1000) (hcd : cd.length ≤ 1000) (hld : ld.length ≤ 1000) (hv : Dk.valid (bs, (o, (ct, co, cp, cd), l, (lt, la, ld))) = true) (ho : o = false) :
    Calls Try.prog 20 #[.agg #[ub, .bool o, .int .i64 ct, .int .i64 co, .int .i64 cp, uc, .int .i64 l, .int .i64 lt, .int .i64 la, ul]] w (RetTk w X (Dk.tick (bs, (o, (ct, co, cp, cd), l, (lt, la, ld))))) := by
  obtain ⟨aub, cub, hub, -⟩ := id hd.r
  obtain ⟨auc, cuc, huc, -⟩ := id hd.c
  obtain ⟨aul, cul, hul, -⟩ := id hd.l
  subst hub huc hul
  obtain ⟨W0, hW0⟩ : ∃ W0, W0 = (w.alloc (.cells #[.slice aub es.length cub, .bool o, .int .i64 ct, .int .i64 co, .int .i64 cp, .slice auc cd.length cuc, .int .i64 l, .int .i64 lt, .int .i64 la, .slice aul ld.length cul] 39 (0, 0))).alloc (.cells #[.slice none 0 0, .bool false, .int .i64 0, .int .i64 0, .int .i64 0, .slice none 0 0, .int .i64 0, .int .i64 0, .int .i64 0, .slice none 0 0] 39 (0, 0)) := ⟨_, rfl⟩
  have hsz0 : W0.heap.size = w.heap.size + 1 + 1 := by rw [hW0]; simp
  have hK : Bk W0 w.heap.size 39 (dkC (.slice aub es.length cub) (o) (ct) (co) (cp) (.slice auc cd.length cuc) (l) (lt) (la) (.slice aul ld.length cul)) := by rw [hW0]; exact (Bk.new w _ (dkC _ _ _ _ _ _ _ _ _ _)).alloc _
  have hR : Bk W0 (w.heap.size + 1) 39 (dkC (.slice none 0 0) (false) (0) (0) (0) (.slice none 0 0) (0) (0) (0) (.slice none 0 0)) := by rw [hW0]; exact Bk.newAt _ _ (dkC _ _ _ _ _ _ _ _ _ _) (by simp)
  have hL : Below w.heap.size w W0 := by rw [hW0]; exact (low_alloc _ _).alloc (by simp) _
  have HV : Hid (∀ W, Below w.heap.size w W → Calls Try.prog 17 #[.agg #[.slice aub es.length cub, .bool o, .int .i64 ct, .int .i64 co, .int .i64 cp, .slice auc cd.length cuc, .int .i64 l, .int .i64 lt, .int .i64 la, .slice aul ld.length cul]] W fun e w' => e = .returned (.bool (Dk.valid (bs, (o, (ct, co, cp, cd), l, (lt, la, ld))))) ∧ Below W.heap.size W w') := fun W hW => dvalid_w o ct co cp l lt la (hd.dr.below hW (Nat.le_refl _))
  have HCP : Hid (∀ W, Below w.heap.size w W → Calls Try.prog 30 #[.agg #[.slice aub es.length cub, .bool o, .int .i64 ct, .int .i64 co, .int .i64 cp, .slice auc cd.length cuc, .int .i64 l, .int .i64 lt, .int .i64 la, .slice aul ld.length cul]] W fun e w' => ∃ ub' uc' ul', e = .returned (.agg #[ub', .bool o, .int .i64 ct, .int .i64 co, .int .i64 cp, uc', .int .i64 l, .int .i64 lt, .int .i64 la, ul']) ∧ Dw W.heap.size X w' ub' uc' ul' es bs cd ld ∧ Below W.heap.size W w') := fun W hW => copied_w o ct co cp l lt la (hd.below hW (Nat.le_refl _)) (hE.below hW) hes hcd hld
  have HE := Lib.hid hE
  have HN := Lib.hid hd.n
  have HL := Lib.hid hL
  have HR := Lib.hid hR
  have HK := Lib.hid hK
  have HSZ := Lib.hid hsz0
  have HCD := Lib.hid hcd
  have HLD := Lib.hid hld
  clear hd hE hes hcd hld hK hR hL hsz0
  have HW0 := Lib.hid hW0
  clear hW0
  rw [hv] at HV
  have HVV := Lib.hid hv
  clear hv
  subst ho
  rw [tick_B HVV.out]
  go_enter Try.func20, Try.ntmps20
  go_upto_region 1 with fail
  rw [← HW0.out]
  obtain ⟨⟨p0, p1, p2, p3, p4, p5, p6, p7, p8, p9⟩, -⟩ := Bk.fd HK.out
  go_upto_region 5 with (first | (go_at_call 17; (with_reducible refine (HV.out _ HL.out).mono ?_); rintro e w1 ⟨rfl, hb1⟩; have hl1 := stepAny HL.out hb1; clear p0 p1 p2 p3 p4 p5 p6 p7 p8 p9; obtain ⟨⟨p0, p1, p2, p3, p4, p5, p6, p7, p8, p9⟩, g0, g1, g2, g3, g4, g5, g6, g7, g8, g9⟩ := Bk.fd (HK.out.below hb1 HK.out.lt); obtain ⟨⟨r0, r1, r2, r3, r4, r5, r6, r7, r8, r9⟩, z0, z1, z2, z3, z4, z5, z6, z7, z8, z9⟩ := Bk.fd (HR.out.below hb1 HR.out.lt)) | (go_at_call 30; (with_reducible refine (HCP.out _ hl1).mono ?_); rintro e w2 ⟨v1, v2, v3, rfl, hdw, hb2⟩; obtain ⟨a1, k1, rfl⟩ := own_slice hdw.r; obtain ⟨a2, k2, rfl⟩ := own_slice hdw.c; obtain ⟨a3, k3, rfl⟩ := own_slice hdw.l; clear p0 p1 p2 p3 p4 p5 p6 p7 p8 p9 g0 g1 g2 g3 g4 g5 g6 g7 g8 g9; obtain ⟨⟨p0, p1, p2, p3, p4, p5, p6, p7, p8, p9⟩, g0, g1, g2, g3, g4, g5, g6, g7, g8, g9⟩ := Bk.fd ((HK.out.below hb1 HK.out.lt).below hb2 (HK.out.below hb1 HK.out.lt).lt)))
  have hs := HSZ.out
  have hs1 : w.heap.size + 1 + 1 ≤ w1.heap.size := by have := hb1.size; omega
  have hl2 := stepAny hl1 hb2
  have hk3 : Bk ((((((((((w2.setCell ⟨w.heap.size, 0, none⟩ (.slice a1 es.length k1)).setCell ⟨w.heap.size, 1, none⟩ (.bool false)).setCell ⟨w.heap.size, 2, none⟩ (.int .i64 ct)).setCell ⟨w.heap.size, 3, none⟩ (.int .i64 co)).setCell ⟨w.heap.size, 4, none⟩ (.int .i64 cp)).setCell ⟨w.heap.size, 5, none⟩ (.slice a2 cd.length k2)).setCell ⟨w.heap.size, 6, none⟩ (.int .i64 l)).setCell ⟨w.heap.size, 7, none⟩ (.int .i64 lt)).setCell ⟨w.heap.size, 8, none⟩ (.int .i64 la)).setCell ⟨w.heap.size, 9, none⟩ (.slice a3 ld.length k3)) w.heap.size 39 (dkC (.slice a1 es.length k1) (false) (ct) (co) (cp) (.slice a2 cd.length k2) (l) (lt) (la) (.slice a3 ld.length k3)) := ((HK.out.below hb1 HK.out.lt).below hb2 (HK.out.below hb1 HK.out.lt).lt).set10 (.slice a1 es.length k1) (.bool false) (.int .i64 ct) (.int .i64 co) (.int .i64 cp) (.slice a2 cd.length k2) (.int .i64 l) (.int .i64 lt) (.int .i64 la) (.slice a3 ld.length k3)
  have hr3 : Bk ((((((((((w2.setCell ⟨w.heap.size, 0, none⟩ (.slice a1 es.length k1)).setCell ⟨w.heap.size, 1, none⟩ (.bool false)).setCell ⟨w.heap.size, 2, none⟩ (.int .i64 ct)).setCell ⟨w.heap.size, 3, none⟩ (.int .i64 co)).setCell ⟨w.heap.size, 4, none⟩ (.int .i64 cp)).setCell ⟨w.heap.size, 5, none⟩ (.slice a2 cd.length k2)).setCell ⟨w.heap.size, 6, none⟩ (.int .i64 l)).setCell ⟨w.heap.size, 7, none⟩ (.int .i64 lt)).setCell ⟨w.heap.size, 8, none⟩ (.int .i64 la)).setCell ⟨w.heap.size, 9, none⟩ (.slice a3 ld.length k3)) (w.heap.size + 1) 39 (dkC (.slice none 0 0) (false) (0) (0) (0) (.slice none 0 0) (0) (0) (0) (.slice none 0 0)) := ((HR.out.below hb1 HR.out.lt).below hb2 (HR.out.below hb1 HR.out.lt).lt).keep (set10_heap (W := w2) (b := w.heap.size) (by omega) (.slice a1 es.length k1) (.bool false) (.int .i64 ct) (.int .i64 co) (.int .i64 cp) (.slice a2 cd.length k2) (.int .i64 l) (.int .i64 lt) (.int .i64 la) (.slice a3 ld.length k3))
  have hl3 : Below w.heap.size w ((((((((((w2.setCell ⟨w.heap.size, 0, none⟩ (.slice a1 es.length k1)).setCell ⟨w.heap.size, 1, none⟩ (.bool false)).setCell ⟨w.heap.size, 2, none⟩ (.int .i64 ct)).setCell ⟨w.heap.size, 3, none⟩ (.int .i64 co)).setCell ⟨w.heap.size, 4, none⟩ (.int .i64 cp)).setCell ⟨w.heap.size, 5, none⟩ (.slice a2 cd.length k2)).setCell ⟨w.heap.size, 6, none⟩ (.int .i64 l)).setCell ⟨w.heap.size, 7, none⟩ (.int .i64 lt)).setCell ⟨w.heap.size, 8, none⟩ (.int .i64 la)).setCell ⟨w.heap.size, 9, none⟩ (.slice a3 ld.length k3)) := set10 hl2 (Nat.le_refl _) (.slice a1 es.length k1) (.bool false) (.int .i64 ct) (.int .i64 co) (.int .i64 cp) (.slice a2 cd.length k2) (.int .i64 l) (.int .i64 lt) (.int .i64 la) (.slice a3 ld.length k3)
  have hd3 : Dw (w.heap.size + 1 + 1) X ((((((((((w2.setCell ⟨w.heap.size, 0, none⟩ (.slice a1 es.length k1)).setCell ⟨w.heap.size, 1, none⟩ (.bool false)).setCell ⟨w.heap.size, 2, none⟩ (.int .i64 ct)).setCell ⟨w.heap.size, 3, none⟩ (.int .i64 co)).setCell ⟨w.heap.size, 4, none⟩ (.int .i64 cp)).setCell ⟨w.heap.size, 5, none⟩ (.slice a2 cd.length k2)).setCell ⟨w.heap.size, 6, none⟩ (.int .i64 l)).setCell ⟨w.heap.size, 7, none⟩ (.int .i64 lt)).setCell ⟨w.heap.size, 8, none⟩ (.int .i64 la)).setCell ⟨w.heap.size, 9, none⟩ (.slice a3 ld.length k3)) (.slice a1 es.length k1) (.slice a2 cd.length k2) (.slice a3 ld.length k3) es bs cd ld := (hdw.down hs1).turn (fun k h1 _ => set10_heap (W := w2) (b := w.heap.size) (by omega) (.slice a1 es.length k1) (.bool false) (.int .i64 ct) (.int .i64 co) (.int .i64 cp) (.slice a2 cd.length k2) (.int .i64 l) (.int .i64 lt) (.int .i64 la) (.slice a3 ld.length k3)) (HE.out.below hl3)
  clear p0 p1 p2 p3 p4 p5 p6 p7 p8 p9 g0 g1 g2 g3 g4 g5 g6 g7 g8 g9 r0 r1 r2 r3 r4 r5 r6 r7 r8 r9 z0 z1 z2 z3 z4 z5 z6 z7 z8 z9 hdw hb1 hb2 hl1 hl2 hs1
  generalize ((((((((((w2.setCell ⟨w.heap.size, 0, none⟩ (.slice a1 es.length k1)).setCell ⟨w.heap.size, 1, none⟩ (.bool false)).setCell ⟨w.heap.size, 2, none⟩ (.int .i64 ct)).setCell ⟨w.heap.size, 3, none⟩ (.int .i64 co)).setCell ⟨w.heap.size, 4, none⟩ (.int .i64 cp)).setCell ⟨w.heap.size, 5, none⟩ (.slice a2 cd.length k2)).setCell ⟨w.heap.size, 6, none⟩ (.int .i64 l)).setCell ⟨w.heap.size, 7, none⟩ (.int .i64 lt)).setCell ⟨w.heap.size, 8, none⟩ (.int .i64 la)).setCell ⟨w.heap.size, 9, none⟩ (.slice a3 ld.length k3)) = W3 at *
  obtain ⟨⟨p0, p1, p2, p3, p4, p5, p6, p7, p8, p9⟩, g0, g1, g2, g3, g4, g5, g6, g7, g8, g9⟩ := Bk.fd hk3
  obtain ⟨⟨r0, r1, r2, r3, r4, r5, r6, r7, r8, r9⟩, z0, z1, z2, z3, z4, z5, z6, z7, z8, z9⟩ := Bk.fd hr3
  go_wp2_with fail
  have hfin := set10 (b := w.heap.size + 1) hl3 (by omega) (.slice a1 es.length k1) (.bool false) (.int .i64 ct) (.int .i64 co) (.int .i64 cp) (.slice a2 cd.length k2) (.int .i64 l) (.int .i64 lt) (.int .i64 la) (.slice a3 ld.length k3)
  have hd4 := hd3.turn (W' := ((((((((((W3.setCell ⟨(w.heap.size + 1), 0, none⟩ (.slice a1 es.length k1)).setCell ⟨(w.heap.size + 1), 1, none⟩ (.bool false)).setCell ⟨(w.heap.size + 1), 2, none⟩ (.int .i64 ct)).setCell ⟨(w.heap.size + 1), 3, none⟩ (.int .i64 co)).setCell ⟨(w.heap.size + 1), 4, none⟩ (.int .i64 cp)).setCell ⟨(w.heap.size + 1), 5, none⟩ (.slice a2 cd.length k2)).setCell ⟨(w.heap.size + 1), 6, none⟩ (.int .i64 l)).setCell ⟨(w.heap.size + 1), 7, none⟩ (.int .i64 lt)).setCell ⟨(w.heap.size + 1), 8, none⟩ (.int .i64 la)).setCell ⟨(w.heap.size + 1), 9, none⟩ (.slice a3 ld.length k3))) (fun k h1 _ => set10_heap (W := W3) (b := w.heap.size + 1) (by omega) (.slice a1 es.length k1) (.bool false) (.int .i64 ct) (.int .i64 co) (.int .i64 cp) (.slice a2 cd.length k2) (.int .i64 l) (.int .i64 lt) (.int .i64 la) (.slice a3 ld.length k3)) (HE.out.below hfin)
  exact bodyPost_ret (v := .tuple #[.agg #[.slice a1 es.length k1, .bool false, .int .i64 ct, .int .i64 co, .int .i64 cp, .slice a2 cd.length k2, .int .i64 l, .int .i64 lt, .int .i64 la, .slice a3 ld.length k3], .slice none 0 0]) (by simp [results, Try.results20, go_sem, r0, r1, r2, r3, r4, r5, r6, r7, r8, r9]) rfl ⟨_, _, _, es, _, rfl, hd4.down (by omega), rfl, hfin⟩

set_option maxRecDepth 100000 in
set_option maxHeartbeats 8000000 in
theorem tick_C_w (o : Bool) (ct co cp l lt la : Int) {ub uc ul : Value} {es : List Tr} {bs : List (List UInt8)} {cd ld : List UInt8} {w : World} {X : Nat → Prop} (hd : De w ub uc ul es bs cd ld) (hE : Av X (fun W => ∀ i (h : i < es.length) (h' : i < bs.length), Sl eb W (et es[i]) bs[i]) w)
    (hes : es.length ≤ 1000) (hcd : cd.length ≤ 1000) (hld : ld.length ≤ 1000) (hv : Dk.valid (bs, (o, (ct, co, cp, cd), l, (lt, la, ld))) = true) (ho : o = true) (h : 1 < l) :
    Calls Try.prog 20 #[.agg #[ub, .bool o, .int .i64 ct, .int .i64 co, .int .i64 cp, uc, .int .i64 l, .int .i64 lt, .int .i64 la, ul]] w (RetTk w X (Dk.tick (bs, (o, (ct, co, cp, cd), l, (lt, la, ld))))) := by
  obtain ⟨aub, cub, hub, -⟩ := id hd.r
  obtain ⟨auc, cuc, huc, -⟩ := id hd.c
  obtain ⟨aul, cul, hul, -⟩ := id hd.l
  subst hub huc hul
  obtain ⟨W0, hW0⟩ : ∃ W0, W0 = (w.alloc (.cells #[.slice aub es.length cub, .bool o, .int .i64 ct, .int .i64 co, .int .i64 cp, .slice auc cd.length cuc, .int .i64 l, .int .i64 lt, .int .i64 la, .slice aul ld.length cul] 39 (0, 0))).alloc (.cells #[.slice none 0 0, .bool false, .int .i64 0, .int .i64 0, .int .i64 0, .slice none 0 0, .int .i64 0, .int .i64 0, .int .i64 0, .slice none 0 0] 39 (0, 0)) := ⟨_, rfl⟩
  have hsz0 : W0.heap.size = w.heap.size + 1 + 1 := by rw [hW0]; simp
  have hK : Bk W0 w.heap.size 39 (dkC (.slice aub es.length cub) (o) (ct) (co) (cp) (.slice auc cd.length cuc) (l) (lt) (la) (.slice aul ld.length cul)) := by rw [hW0]; exact (Bk.new w _ (dkC _ _ _ _ _ _ _ _ _ _)).alloc _
  have hR : Bk W0 (w.heap.size + 1) 39 (dkC (.slice none 0 0) (false) (0) (0) (0) (.slice none 0 0) (0) (0) (0) (.slice none 0 0)) := by rw [hW0]; exact Bk.newAt _ _ (dkC _ _ _ _ _ _ _ _ _ _) (by simp)
  have hL : Below w.heap.size w W0 := by rw [hW0]; exact (low_alloc _ _).alloc (by simp) _
  have HV : Hid (∀ W, Below w.heap.size w W → Calls Try.prog 17 #[.agg #[.slice aub es.length cub, .bool o, .int .i64 ct, .int .i64 co, .int .i64 cp, .slice auc cd.length cuc, .int .i64 l, .int .i64 lt, .int .i64 la, .slice aul ld.length cul]] W fun e w' => e = .returned (.bool (Dk.valid (bs, (o, (ct, co, cp, cd), l, (lt, la, ld))))) ∧ Below W.heap.size W w') := fun W hW => dvalid_w o ct co cp l lt la (hd.dr.below hW (Nat.le_refl _))
  have HCP : Hid (∀ W, Below w.heap.size w W → Calls Try.prog 30 #[.agg #[.slice aub es.length cub, .bool o, .int .i64 ct, .int .i64 co, .int .i64 cp, .slice auc cd.length cuc, .int .i64 l, .int .i64 lt, .int .i64 la, .slice aul ld.length cul]] W fun e w' => ∃ ub' uc' ul', e = .returned (.agg #[ub', .bool o, .int .i64 ct, .int .i64 co, .int .i64 cp, uc', .int .i64 l, .int .i64 lt, .int .i64 la, ul']) ∧ Dw W.heap.size X w' ub' uc' ul' es bs cd ld ∧ Below W.heap.size W w') := fun W hW => copied_w o ct co cp l lt la (hd.below hW (Nat.le_refl _)) (hE.below hW) hes hcd hld
  have HE := Lib.hid hE
  have HN := Lib.hid hd.n
  have HL := Lib.hid hL
  have HR := Lib.hid hR
  have HK := Lib.hid hK
  have HSZ := Lib.hid hsz0
  have HCD := Lib.hid hcd
  have HLD := Lib.hid hld
  clear hd hE hes hcd hld hK hR hL hsz0
  have HW0 := Lib.hid hW0
  clear hW0
  rw [hv] at HV
  have HVV := Lib.hid hv
  clear hv
  subst ho
  rw [tick_C HVV.out h]
  have hl3' := (valid_parts HVV.out).2.2
  have q0 : 0 < l - 1 := by omega
  have q1 : wrap64 (l - 1) = l - 1 := by unfold wrap64; omega
  clear h hl3'
  go_enter Try.func20, Try.ntmps20
  go_upto_region 1 with fail
  rw [← HW0.out]
  obtain ⟨⟨p0, p1, p2, p3, p4, p5, p6, p7, p8, p9⟩, -⟩ := Bk.fd HK.out
  go_upto_region 5 with (first | (go_at_call 17; (with_reducible refine (HV.out _ HL.out).mono ?_); rintro e w1 ⟨rfl, hb1⟩; have hl1 := stepAny HL.out hb1; clear p0 p1 p2 p3 p4 p5 p6 p7 p8 p9; obtain ⟨⟨p0, p1, p2, p3, p4, p5, p6, p7, p8, p9⟩, g0, g1, g2, g3, g4, g5, g6, g7, g8, g9⟩ := Bk.fd (HK.out.below hb1 HK.out.lt); obtain ⟨⟨r0, r1, r2, r3, r4, r5, r6, r7, r8, r9⟩, z0, z1, z2, z3, z4, z5, z6, z7, z8, z9⟩ := Bk.fd (HR.out.below hb1 HR.out.lt)) | (go_at_call 30; (with_reducible refine (HCP.out _ hl1).mono ?_); rintro e w2 ⟨v1, v2, v3, rfl, hdw, hb2⟩; obtain ⟨a1, k1, rfl⟩ := own_slice hdw.r; obtain ⟨a2, k2, rfl⟩ := own_slice hdw.c; obtain ⟨a3, k3, rfl⟩ := own_slice hdw.l; clear p0 p1 p2 p3 p4 p5 p6 p7 p8 p9 g0 g1 g2 g3 g4 g5 g6 g7 g8 g9; obtain ⟨⟨p0, p1, p2, p3, p4, p5, p6, p7, p8, p9⟩, g0, g1, g2, g3, g4, g5, g6, g7, g8, g9⟩ := Bk.fd ((HK.out.below hb1 HK.out.lt).below hb2 (HK.out.below hb1 HK.out.lt).lt)))
  have hs := HSZ.out
  have hs1 : w.heap.size + 1 + 1 ≤ w1.heap.size := by have := hb1.size; omega
  have hl2 := stepAny hl1 hb2
  have hk3 : Bk ((((((((((w2.setCell ⟨w.heap.size, 0, none⟩ (.slice a1 es.length k1)).setCell ⟨w.heap.size, 1, none⟩ (.bool true)).setCell ⟨w.heap.size, 2, none⟩ (.int .i64 ct)).setCell ⟨w.heap.size, 3, none⟩ (.int .i64 co)).setCell ⟨w.heap.size, 4, none⟩ (.int .i64 cp)).setCell ⟨w.heap.size, 5, none⟩ (.slice a2 cd.length k2)).setCell ⟨w.heap.size, 6, none⟩ (.int .i64 l)).setCell ⟨w.heap.size, 7, none⟩ (.int .i64 lt)).setCell ⟨w.heap.size, 8, none⟩ (.int .i64 la)).setCell ⟨w.heap.size, 9, none⟩ (.slice a3 ld.length k3)) w.heap.size 39 (dkC (.slice a1 es.length k1) (true) (ct) (co) (cp) (.slice a2 cd.length k2) (l) (lt) (la) (.slice a3 ld.length k3)) := ((HK.out.below hb1 HK.out.lt).below hb2 (HK.out.below hb1 HK.out.lt).lt).set10 (.slice a1 es.length k1) (.bool true) (.int .i64 ct) (.int .i64 co) (.int .i64 cp) (.slice a2 cd.length k2) (.int .i64 l) (.int .i64 lt) (.int .i64 la) (.slice a3 ld.length k3)
  have hr3 : Bk ((((((((((w2.setCell ⟨w.heap.size, 0, none⟩ (.slice a1 es.length k1)).setCell ⟨w.heap.size, 1, none⟩ (.bool true)).setCell ⟨w.heap.size, 2, none⟩ (.int .i64 ct)).setCell ⟨w.heap.size, 3, none⟩ (.int .i64 co)).setCell ⟨w.heap.size, 4, none⟩ (.int .i64 cp)).setCell ⟨w.heap.size, 5, none⟩ (.slice a2 cd.length k2)).setCell ⟨w.heap.size, 6, none⟩ (.int .i64 l)).setCell ⟨w.heap.size, 7, none⟩ (.int .i64 lt)).setCell ⟨w.heap.size, 8, none⟩ (.int .i64 la)).setCell ⟨w.heap.size, 9, none⟩ (.slice a3 ld.length k3)) (w.heap.size + 1) 39 (dkC (.slice none 0 0) (false) (0) (0) (0) (.slice none 0 0) (0) (0) (0) (.slice none 0 0)) := ((HR.out.below hb1 HR.out.lt).below hb2 (HR.out.below hb1 HR.out.lt).lt).keep (set10_heap (W := w2) (b := w.heap.size) (by omega) (.slice a1 es.length k1) (.bool true) (.int .i64 ct) (.int .i64 co) (.int .i64 cp) (.slice a2 cd.length k2) (.int .i64 l) (.int .i64 lt) (.int .i64 la) (.slice a3 ld.length k3))
  have hl3 : Below w.heap.size w ((((((((((w2.setCell ⟨w.heap.size, 0, none⟩ (.slice a1 es.length k1)).setCell ⟨w.heap.size, 1, none⟩ (.bool true)).setCell ⟨w.heap.size, 2, none⟩ (.int .i64 ct)).setCell ⟨w.heap.size, 3, none⟩ (.int .i64 co)).setCell ⟨w.heap.size, 4, none⟩ (.int .i64 cp)).setCell ⟨w.heap.size, 5, none⟩ (.slice a2 cd.length k2)).setCell ⟨w.heap.size, 6, none⟩ (.int .i64 l)).setCell ⟨w.heap.size, 7, none⟩ (.int .i64 lt)).setCell ⟨w.heap.size, 8, none⟩ (.int .i64 la)).setCell ⟨w.heap.size, 9, none⟩ (.slice a3 ld.length k3)) := set10 hl2 (Nat.le_refl _) (.slice a1 es.length k1) (.bool true) (.int .i64 ct) (.int .i64 co) (.int .i64 cp) (.slice a2 cd.length k2) (.int .i64 l) (.int .i64 lt) (.int .i64 la) (.slice a3 ld.length k3)
  have hd3 : Dw (w.heap.size + 1 + 1) X ((((((((((w2.setCell ⟨w.heap.size, 0, none⟩ (.slice a1 es.length k1)).setCell ⟨w.heap.size, 1, none⟩ (.bool true)).setCell ⟨w.heap.size, 2, none⟩ (.int .i64 ct)).setCell ⟨w.heap.size, 3, none⟩ (.int .i64 co)).setCell ⟨w.heap.size, 4, none⟩ (.int .i64 cp)).setCell ⟨w.heap.size, 5, none⟩ (.slice a2 cd.length k2)).setCell ⟨w.heap.size, 6, none⟩ (.int .i64 l)).setCell ⟨w.heap.size, 7, none⟩ (.int .i64 lt)).setCell ⟨w.heap.size, 8, none⟩ (.int .i64 la)).setCell ⟨w.heap.size, 9, none⟩ (.slice a3 ld.length k3)) (.slice a1 es.length k1) (.slice a2 cd.length k2) (.slice a3 ld.length k3) es bs cd ld := (hdw.down hs1).turn (fun k h1 _ => set10_heap (W := w2) (b := w.heap.size) (by omega) (.slice a1 es.length k1) (.bool true) (.int .i64 ct) (.int .i64 co) (.int .i64 cp) (.slice a2 cd.length k2) (.int .i64 l) (.int .i64 lt) (.int .i64 la) (.slice a3 ld.length k3)) (HE.out.below hl3)
  clear p0 p1 p2 p3 p4 p5 p6 p7 p8 p9 g0 g1 g2 g3 g4 g5 g6 g7 g8 g9 r0 r1 r2 r3 r4 r5 r6 r7 r8 r9 z0 z1 z2 z3 z4 z5 z6 z7 z8 z9 hdw hb1 hb2 hl1 hl2 hs1
  generalize ((((((((((w2.setCell ⟨w.heap.size, 0, none⟩ (.slice a1 es.length k1)).setCell ⟨w.heap.size, 1, none⟩ (.bool true)).setCell ⟨w.heap.size, 2, none⟩ (.int .i64 ct)).setCell ⟨w.heap.size, 3, none⟩ (.int .i64 co)).setCell ⟨w.heap.size, 4, none⟩ (.int .i64 cp)).setCell ⟨w.heap.size, 5, none⟩ (.slice a2 cd.length k2)).setCell ⟨w.heap.size, 6, none⟩ (.int .i64 l)).setCell ⟨w.heap.size, 7, none⟩ (.int .i64 lt)).setCell ⟨w.heap.size, 8, none⟩ (.int .i64 la)).setCell ⟨w.heap.size, 9, none⟩ (.slice a3 ld.length k3)) = W3 at *
  obtain ⟨⟨p0, p1, p2, p3, p4, p5, p6, p7, p8, p9⟩, g0, g1, g2, g3, g4, g5, g6, g7, g8, g9⟩ := Bk.fd hk3
  obtain ⟨⟨r0, r1, r2, r3, r4, r5, r6, r7, r8, r9⟩, z0, z1, z2, z3, z4, z5, z6, z7, z8, z9⟩ := Bk.fd hr3
  go_upto_region 9 with fail
  have hl4 : Below w.heap.size w (W3.setCell ⟨w.heap.size, 6, none⟩ (.int .i64 (l - 1))) := hl3.setCell (Nat.le_refl _) _
  have hk4 : Bk (W3.setCell ⟨w.heap.size, 6, none⟩ (.int .i64 (l - 1))) w.heap.size 39 (dkC (.slice a1 es.length k1) (true) (ct) (co) (cp) (.slice a2 cd.length k2) ((l - 1)) (lt) (la) (.slice a3 ld.length k3)) := hk3.set 6 (.int .i64 (l - 1))
  have hr4 : Bk (W3.setCell ⟨w.heap.size, 6, none⟩ (.int .i64 (l - 1))) (w.heap.size + 1) 39 (dkC (.slice none 0 0) (false) (0) (0) (0) (.slice none 0 0) (0) (0) (0) (.slice none 0 0)) := hr3.far (p := ⟨w.heap.size, 6, none⟩) (by show w.heap.size + 1 ≠ w.heap.size; omega) (.int .i64 (l - 1))
  have hd4 : Dw (w.heap.size + 1 + 1) X (W3.setCell ⟨w.heap.size, 6, none⟩ (.int .i64 (l - 1))) (.slice a1 es.length k1) (.slice a2 cd.length k2) (.slice a3 ld.length k3) es bs cd ld := hd3.turn (fun k h1 _ => Below.heap_setCell _ _ _ k (by show k ≠ w.heap.size; omega)) (HE.out.below hl4)
  clear p0 p1 p2 p3 p4 p5 p6 p7 p8 p9 g0 g1 g2 g3 g4 g5 g6 g7 g8 g9 r0 r1 r2 r3 r4 r5 r6 r7 r8 r9 z0 z1 z2 z3 z4 z5 z6 z7 z8 z9 hd3 hk3 hr3 hl3
  generalize W3.setCell ⟨w.heap.size, 6, none⟩ (.int .i64 (l - 1)) = W4 at *
  obtain ⟨⟨p0, p1, p2, p3, p4, p5, p6, p7, p8, p9⟩, g0, g1, g2, g3, g4, g5, g6, g7, g8, g9⟩ := Bk.fd hk4
  obtain ⟨⟨r0, r1, r2, r3, r4, r5, r6, r7, r8, r9⟩, z0, z1, z2, z3, z4, z5, z6, z7, z8, z9⟩ := Bk.fd hr4
  go_wp2_with fail
  have hfin := set10 (b := w.heap.size + 1) hl4 (by omega) (.slice a1 es.length k1) (.bool true) (.int .i64 ct) (.int .i64 co) (.int .i64 cp) (.slice a2 cd.length k2) (.int .i64 (l - 1)) (.int .i64 lt) (.int .i64 la) (.slice a3 ld.length k3)
  have hd5 := hd4.turn (W' := ((((((((((W4.setCell ⟨(w.heap.size + 1), 0, none⟩ (.slice a1 es.length k1)).setCell ⟨(w.heap.size + 1), 1, none⟩ (.bool true)).setCell ⟨(w.heap.size + 1), 2, none⟩ (.int .i64 ct)).setCell ⟨(w.heap.size + 1), 3, none⟩ (.int .i64 co)).setCell ⟨(w.heap.size + 1), 4, none⟩ (.int .i64 cp)).setCell ⟨(w.heap.size + 1), 5, none⟩ (.slice a2 cd.length k2)).setCell ⟨(w.heap.size + 1), 6, none⟩ (.int .i64 (l - 1))).setCell ⟨(w.heap.size + 1), 7, none⟩ (.int .i64 lt)).setCell ⟨(w.heap.size + 1), 8, none⟩ (.int .i64 la)).setCell ⟨(w.heap.size + 1), 9, none⟩ (.slice a3 ld.length k3))) (fun k h1 _ => set10_heap (W := W4) (b := w.heap.size + 1) (by omega) (.slice a1 es.length k1) (.bool true) (.int .i64 ct) (.int .i64 co) (.int .i64 cp) (.slice a2 cd.length k2) (.int .i64 (l - 1)) (.int .i64 lt) (.int .i64 la) (.slice a3 ld.length k3)) (HE.out.below hfin)
  exact bodyPost_ret (v := .tuple #[.agg #[.slice a1 es.length k1, .bool true, .int .i64 ct, .int .i64 co, .int .i64 cp, .slice a2 cd.length k2, .int .i64 (l - 1), .int .i64 lt, .int .i64 la, .slice a3 ld.length k3], .slice none 0 0]) (by simp [results, Try.results20, go_sem, r0, r1, r2, r3, r4, r5, r6, r7, r8, r9]) rfl ⟨_, _, _, es, _, rfl, hd5.down (by omega), rfl, hfin⟩
end Go.Proofs.Yteeoonoccklhmaa
