/-
  The walk of disk.Equal (printed by gen/mk11eq.py).
-/
import Derived.Test.YteeoonoccklhmaaSame
import Derived.Deep.DeepCutAuto
namespace Go.Proofs.Yteeoonoccklhmaa
open Go.RowKit

set_option maxRecDepth 100000 in
set_option maxHeartbeats 8000000 in
theorem deq0 (o1 o2 : Bool) (ct1 co1 cp1 l1 lt1 la1 ct2 co2 cp2 l2 lt2 la2 : Int) (a1 f1 h1 a2 f2 h2 : Option Addr) (n1 c1 p1 g1 q1 i1 n2 c2 p2 g2 q2 i2 : Nat) (w : World) (r : Bool)
    (HE : Hid (∀ W, Below w.heap.size w W → Calls Try.prog 42 #[.slice a1 n1 c1, .slice a2 n2 c2, .func (.func 43) #[] #[]] W fun e w' => e = .returned (.bool false) ∧ W = w')) :
    Calls Try.prog 19 #[.agg #[.slice a1 n1 c1, .bool o1, .int .i64 ct1, .int .i64 co1, .int .i64 cp1, .slice f1 p1 g1, .int .i64 l1, .int .i64 lt1, .int .i64 la1, .slice h1 q1 i1], .agg #[.slice a2 n2 c2, .bool o2, .int .i64 ct2, .int .i64 co2, .int .i64 cp2, .slice f2 p2 g2, .int .i64 l2, .int .i64 lt2, .int .i64 la2, .slice h2 q2 i2]] w fun e w' => e = .returned (.bool false) ∧ Below w.heap.size w w' := by
  obtain ⟨W0, hW0⟩ : ∃ W0, W0 = (w.alloc (.cells #[.slice a1 n1 c1, .bool o1, .int .i64 ct1, .int .i64 co1, .int .i64 cp1, .slice f1 p1 g1, .int .i64 l1, .int .i64 lt1, .int .i64 la1, .slice h1 q1 i1] 39 (0, 0))).alloc (.cells #[.slice a2 n2 c2, .bool o2, .int .i64 ct2, .int .i64 co2, .int .i64 cp2, .slice f2 p2 g2, .int .i64 l2, .int .i64 lt2, .int .i64 la2, .slice h2 q2 i2] 39 (0, 0)) := ⟨_, rfl⟩
  have hA : Bk W0 w.heap.size 39 [.slice a1 n1 c1, .bool o1, .int .i64 ct1, .int .i64 co1, .int .i64 cp1, .slice f1 p1 g1, .int .i64 l1, .int .i64 lt1, .int .i64 la1, .slice h1 q1 i1] := by rw [hW0]; exact (Bk.new w _ [_, _, _, _, _, _, _, _, _, _]).alloc _
  have hB : Bk W0 (w.heap.size + 1) 39 [.slice a2 n2 c2, .bool o2, .int .i64 ct2, .int .i64 co2, .int .i64 cp2, .slice f2 p2 g2, .int .i64 l2, .int .i64 lt2, .int .i64 la2, .slice h2 q2 i2] := by rw [hW0]; exact Bk.newAt _ _ [_, _, _, _, _, _, _, _, _, _] (by simp)
  have hL : Below w.heap.size w W0 := by rw [hW0]; exact (low_alloc _ _).alloc (by simp) _
  have hs0 : W0.heap.size = w.heap.size + 1 + 1 := by rw [hW0]; simp
  have HA := Lib.hid hA
  have HB0 := Lib.hid hB
  have HL := Lib.hid hL
  have HS0 := Lib.hid hs0
  clear hA hB hL hs0
  go_enter Try.func19, Try.ntmps19
  go_upto_region 1 with fail
  rw [← hW0]
  clear hW0
  go_cut [5, 6] (fun s5 s6 W' => ∃ p q, s5 = .pointer (some ⟨p, 0, none⟩) ∧ s6 = .pointer (some ⟨q, 0, none⟩) ∧ Bk W' p 37 [.bool o1, .int .i64 ct1, .int .i64 co1, .int .i64 cp1, .slice f1 p1 g1, .int .i64 l1, .int .i64 lt1, .int .i64 la1, .slice h1 q1 i1] ∧ Bk W' q 37 [.bool o2, .int .i64 ct2, .int .i64 co2, .int .i64 cp2, .slice f2 p2 g2, .int .i64 l2, .int .i64 lt2, .int .i64 la2, .slice h2 q2 i2] ∧ Below W0.heap.size W0 W')
  case first =>
    have hS0 : (fun w' => Bk w' w.heap.size 39 [.slice a1 n1 c1, .bool o1, .int .i64 ct1, .int .i64 co1, .int .i64 cp1, .slice f1 p1 g1, .int .i64 l1, .int .i64 lt1, .int .i64 la1, .slice h1 q1 i1] ∧ Bk w' (w.heap.size + 1) 39 [.slice a2 n2 c2, .bool o2, .int .i64 ct2, .int .i64 co2, .int .i64 cp2, .slice f2 p2 g2, .int .i64 l2, .int .i64 lt2, .int .i64 la2, .slice h2 q2 i2]) W0.drew := ⟨HA.out, HB0.out⟩
    have HK1 : Hid (∀ o, Bk (W0.alloc o).drew w.heap.size 39 [.slice a1 n1 c1, .bool o1, .int .i64 ct1, .int .i64 co1, .int .i64 cp1, .slice f1 p1 g1, .int .i64 l1, .int .i64 lt1, .int .i64 la1, .slice h1 q1 i1] ∧ Bk (W0.alloc o).drew (w.heap.size + 1) 39 [.slice a2 n2 c2, .bool o2, .int .i64 ct2, .int .i64 co2, .int .i64 cp2, .slice f2 p2 g2, .int .i64 l2, .int .i64 lt2, .int .i64 la2, .slice h2 q2 i2]) := fun o => ⟨HA.out.alloc o, HB0.out.alloc o⟩
    have HK2 : Hid (∀ o o', Bk ((W0.alloc o).alloc o').drew w.heap.size 39 [.slice a1 n1 c1, .bool o1, .int .i64 ct1, .int .i64 co1, .int .i64 cp1, .slice f1 p1 g1, .int .i64 l1, .int .i64 lt1, .int .i64 la1, .slice h1 q1 i1] ∧ Bk ((W0.alloc o).alloc o').drew (w.heap.size + 1) 39 [.slice a2 n2 c2, .bool o2, .int .i64 ct2, .int .i64 co2, .int .i64 cp2, .slice f2 p2 g2, .int .i64 l2, .int .i64 lt2, .int .i64 la2, .slice h2 q2 i2]) := fun o o' => ⟨(HA.out.alloc o).alloc o', (HB0.out.alloc o).alloc o'⟩
    refine wp_region_noPanic ?_
    refine wp_region_held_drew (S := fun w' => Bk w' w.heap.size 39 [.slice a1 n1 c1, .bool o1, .int .i64 ct1, .int .i64 co1, .int .i64 cp1, .slice f1 p1 g1, .int .i64 l1, .int .i64 lt1, .int .i64 la1, .slice h1 q1 i1] ∧ Bk w' (w.heap.size + 1) 39 [.slice a2 n2 c2, .bool o2, .int .i64 ct2, .int .i64 co2, .int .i64 cp2, .slice f2 p2 g2, .int .i64 l2, .int .i64 lt2, .int .i64 la2, .slice h2 q2 i2]) (by kernel_rfl) hS0 (fun _ => ?_)
    refine wpAnyH_take (i := 0) (oi := ⟨some 7, _, _, _, _, _⟩) (v := ?_) rfl (by kernel_rfl) (by kernel_rfl) (by kernel_rfl) (fun _ _ _ h => h) (Or.inl ⟨by rfl, ?hy0⟩) hS0 ?re0
    case hy0 => ((intro W hSw; obtain ⟨hSa, hSb⟩ := hSw; obtain ⟨x0, x1, x2, x3, x4, x5, x6, x7, x8, x9⟩ : W.cell? ⟨w.heap.size, 0, none⟩ = some (.slice a1 n1 c1) ∧ W.cell? ⟨w.heap.size, 1, none⟩ = some (.bool o1) ∧ W.cell? ⟨w.heap.size, 2, none⟩ = some (.int .i64 ct1) ∧ W.cell? ⟨w.heap.size, 3, none⟩ = some (.int .i64 co1) ∧ W.cell? ⟨w.heap.size, 4, none⟩ = some (.int .i64 cp1) ∧ W.cell? ⟨w.heap.size, 5, none⟩ = some (.slice f1 p1 g1) ∧ W.cell? ⟨w.heap.size, 6, none⟩ = some (.int .i64 l1) ∧ W.cell? ⟨w.heap.size, 7, none⟩ = some (.int .i64 lt1) ∧ W.cell? ⟨w.heap.size, 8, none⟩ = some (.int .i64 la1) ∧ W.cell? ⟨w.heap.size, 9, none⟩ = some (.slice h1 q1 i1) := ⟨hSa.cell 0, hSa.cell 1, hSa.cell 2, hSa.cell 3, hSa.cell 4, hSa.cell 5, hSa.cell 6, hSa.cell 7, hSa.cell 8, hSa.cell 9⟩; obtain ⟨y0, y1, y2, y3, y4, y5, y6, y7, y8, y9⟩ : W.cell? ⟨w.heap.size + 1, 0, none⟩ = some (.slice a2 n2 c2) ∧ W.cell? ⟨w.heap.size + 1, 1, none⟩ = some (.bool o2) ∧ W.cell? ⟨w.heap.size + 1, 2, none⟩ = some (.int .i64 ct2) ∧ W.cell? ⟨w.heap.size + 1, 3, none⟩ = some (.int .i64 co2) ∧ W.cell? ⟨w.heap.size + 1, 4, none⟩ = some (.int .i64 cp2) ∧ W.cell? ⟨w.heap.size + 1, 5, none⟩ = some (.slice f2 p2 g2) ∧ W.cell? ⟨w.heap.size + 1, 6, none⟩ = some (.int .i64 l2) ∧ W.cell? ⟨w.heap.size + 1, 7, none⟩ = some (.int .i64 lt2) ∧ W.cell? ⟨w.heap.size + 1, 8, none⟩ = some (.int .i64 la2) ∧ W.cell? ⟨w.heap.size + 1, 9, none⟩ = some (.slice h2 q2 i2) := ⟨hSb.cell 0, hSb.cell 1, hSb.cell 2, hSb.cell 3, hSb.cell 4, hSb.cell 5, hSb.cell 6, hSb.cell 7, hSb.cell 8, hSb.cell 9⟩; clear hSa hSb; go_simp); first | done | with_reducible rfl)
    (try simp only [Act.put, List.setIfInBounds_toArray, List.set_cons_zero, List.set_cons_succ])
    refine wpAnyH_take (i := 2) (oi := ⟨some 9, _, _, _, _, _⟩) (v := ?_) rfl (by kernel_rfl) (by kernel_rfl) (by kernel_rfl) (fun _ _ _ h => h) (Or.inl ⟨by rfl, ?hy2⟩) hS0 ?re2
    case hy2 => ((intro W hSw; obtain ⟨hSa, hSb⟩ := hSw; obtain ⟨x0, x1, x2, x3, x4, x5, x6, x7, x8, x9⟩ : W.cell? ⟨w.heap.size, 0, none⟩ = some (.slice a1 n1 c1) ∧ W.cell? ⟨w.heap.size, 1, none⟩ = some (.bool o1) ∧ W.cell? ⟨w.heap.size, 2, none⟩ = some (.int .i64 ct1) ∧ W.cell? ⟨w.heap.size, 3, none⟩ = some (.int .i64 co1) ∧ W.cell? ⟨w.heap.size, 4, none⟩ = some (.int .i64 cp1) ∧ W.cell? ⟨w.heap.size, 5, none⟩ = some (.slice f1 p1 g1) ∧ W.cell? ⟨w.heap.size, 6, none⟩ = some (.int .i64 l1) ∧ W.cell? ⟨w.heap.size, 7, none⟩ = some (.int .i64 lt1) ∧ W.cell? ⟨w.heap.size, 8, none⟩ = some (.int .i64 la1) ∧ W.cell? ⟨w.heap.size, 9, none⟩ = some (.slice h1 q1 i1) := ⟨hSa.cell 0, hSa.cell 1, hSa.cell 2, hSa.cell 3, hSa.cell 4, hSa.cell 5, hSa.cell 6, hSa.cell 7, hSa.cell 8, hSa.cell 9⟩; obtain ⟨y0, y1, y2, y3, y4, y5, y6, y7, y8, y9⟩ : W.cell? ⟨w.heap.size + 1, 0, none⟩ = some (.slice a2 n2 c2) ∧ W.cell? ⟨w.heap.size + 1, 1, none⟩ = some (.bool o2) ∧ W.cell? ⟨w.heap.size + 1, 2, none⟩ = some (.int .i64 ct2) ∧ W.cell? ⟨w.heap.size + 1, 3, none⟩ = some (.int .i64 co2) ∧ W.cell? ⟨w.heap.size + 1, 4, none⟩ = some (.int .i64 cp2) ∧ W.cell? ⟨w.heap.size + 1, 5, none⟩ = some (.slice f2 p2 g2) ∧ W.cell? ⟨w.heap.size + 1, 6, none⟩ = some (.int .i64 l2) ∧ W.cell? ⟨w.heap.size + 1, 7, none⟩ = some (.int .i64 lt2) ∧ W.cell? ⟨w.heap.size + 1, 8, none⟩ = some (.int .i64 la2) ∧ W.cell? ⟨w.heap.size + 1, 9, none⟩ = some (.slice h2 q2 i2) := ⟨hSb.cell 0, hSb.cell 1, hSb.cell 2, hSb.cell 3, hSb.cell 4, hSb.cell 5, hSb.cell 6, hSb.cell 7, hSb.cell 8, hSb.cell 9⟩; clear hSa hSb; go_simp); first | done | with_reducible rfl)
    (try simp only [Act.put, List.setIfInBounds_toArray, List.set_cons_zero, List.set_cons_succ])
    refine wpAnyH_take (i := 1) (oi := ⟨some 8, _, _, _, _, _⟩) (v := ?_) rfl (by kernel_rfl) (by kernel_rfl) (by kernel_rfl) (fun _ _ _ h => h) (Or.inl ⟨by rfl, ?hy1⟩) hS0 ?re1
    case hy1 => ((intro W hSw; obtain ⟨hSa, hSb⟩ := hSw; obtain ⟨x0, x1, x2, x3, x4, x5, x6, x7, x8, x9⟩ : W.cell? ⟨w.heap.size, 0, none⟩ = some (.slice a1 n1 c1) ∧ W.cell? ⟨w.heap.size, 1, none⟩ = some (.bool o1) ∧ W.cell? ⟨w.heap.size, 2, none⟩ = some (.int .i64 ct1) ∧ W.cell? ⟨w.heap.size, 3, none⟩ = some (.int .i64 co1) ∧ W.cell? ⟨w.heap.size, 4, none⟩ = some (.int .i64 cp1) ∧ W.cell? ⟨w.heap.size, 5, none⟩ = some (.slice f1 p1 g1) ∧ W.cell? ⟨w.heap.size, 6, none⟩ = some (.int .i64 l1) ∧ W.cell? ⟨w.heap.size, 7, none⟩ = some (.int .i64 lt1) ∧ W.cell? ⟨w.heap.size, 8, none⟩ = some (.int .i64 la1) ∧ W.cell? ⟨w.heap.size, 9, none⟩ = some (.slice h1 q1 i1) := ⟨hSa.cell 0, hSa.cell 1, hSa.cell 2, hSa.cell 3, hSa.cell 4, hSa.cell 5, hSa.cell 6, hSa.cell 7, hSa.cell 8, hSa.cell 9⟩; obtain ⟨y0, y1, y2, y3, y4, y5, y6, y7, y8, y9⟩ : W.cell? ⟨w.heap.size + 1, 0, none⟩ = some (.slice a2 n2 c2) ∧ W.cell? ⟨w.heap.size + 1, 1, none⟩ = some (.bool o2) ∧ W.cell? ⟨w.heap.size + 1, 2, none⟩ = some (.int .i64 ct2) ∧ W.cell? ⟨w.heap.size + 1, 3, none⟩ = some (.int .i64 co2) ∧ W.cell? ⟨w.heap.size + 1, 4, none⟩ = some (.int .i64 cp2) ∧ W.cell? ⟨w.heap.size + 1, 5, none⟩ = some (.slice f2 p2 g2) ∧ W.cell? ⟨w.heap.size + 1, 6, none⟩ = some (.int .i64 l2) ∧ W.cell? ⟨w.heap.size + 1, 7, none⟩ = some (.int .i64 lt2) ∧ W.cell? ⟨w.heap.size + 1, 8, none⟩ = some (.int .i64 la2) ∧ W.cell? ⟨w.heap.size + 1, 9, none⟩ = some (.slice h2 q2 i2) := ⟨hSb.cell 0, hSb.cell 1, hSb.cell 2, hSb.cell 3, hSb.cell 4, hSb.cell 5, hSb.cell 6, hSb.cell 7, hSb.cell 8, hSb.cell 9⟩; clear hSa hSb; go_simp); first | done | with_reducible rfl)
    (try simp only [Act.put, List.setIfInBounds_toArray, List.set_cons_zero, List.set_cons_succ])
    refine wpAnyH_take (i := 3) (oi := ⟨some 10, _, _, _, _, _⟩) (v := ?_) rfl (by kernel_rfl) (by kernel_rfl) (by kernel_rfl) (fun _ _ _ h => h) (Or.inl ⟨by rfl, ?hy3⟩) hS0 ?re3
    case hy3 => ((intro W hSw; obtain ⟨hSa, hSb⟩ := hSw; obtain ⟨x0, x1, x2, x3, x4, x5, x6, x7, x8, x9⟩ : W.cell? ⟨w.heap.size, 0, none⟩ = some (.slice a1 n1 c1) ∧ W.cell? ⟨w.heap.size, 1, none⟩ = some (.bool o1) ∧ W.cell? ⟨w.heap.size, 2, none⟩ = some (.int .i64 ct1) ∧ W.cell? ⟨w.heap.size, 3, none⟩ = some (.int .i64 co1) ∧ W.cell? ⟨w.heap.size, 4, none⟩ = some (.int .i64 cp1) ∧ W.cell? ⟨w.heap.size, 5, none⟩ = some (.slice f1 p1 g1) ∧ W.cell? ⟨w.heap.size, 6, none⟩ = some (.int .i64 l1) ∧ W.cell? ⟨w.heap.size, 7, none⟩ = some (.int .i64 lt1) ∧ W.cell? ⟨w.heap.size, 8, none⟩ = some (.int .i64 la1) ∧ W.cell? ⟨w.heap.size, 9, none⟩ = some (.slice h1 q1 i1) := ⟨hSa.cell 0, hSa.cell 1, hSa.cell 2, hSa.cell 3, hSa.cell 4, hSa.cell 5, hSa.cell 6, hSa.cell 7, hSa.cell 8, hSa.cell 9⟩; obtain ⟨y0, y1, y2, y3, y4, y5, y6, y7, y8, y9⟩ : W.cell? ⟨w.heap.size + 1, 0, none⟩ = some (.slice a2 n2 c2) ∧ W.cell? ⟨w.heap.size + 1, 1, none⟩ = some (.bool o2) ∧ W.cell? ⟨w.heap.size + 1, 2, none⟩ = some (.int .i64 ct2) ∧ W.cell? ⟨w.heap.size + 1, 3, none⟩ = some (.int .i64 co2) ∧ W.cell? ⟨w.heap.size + 1, 4, none⟩ = some (.int .i64 cp2) ∧ W.cell? ⟨w.heap.size + 1, 5, none⟩ = some (.slice f2 p2 g2) ∧ W.cell? ⟨w.heap.size + 1, 6, none⟩ = some (.int .i64 l2) ∧ W.cell? ⟨w.heap.size + 1, 7, none⟩ = some (.int .i64 lt2) ∧ W.cell? ⟨w.heap.size + 1, 8, none⟩ = some (.int .i64 la2) ∧ W.cell? ⟨w.heap.size + 1, 9, none⟩ = some (.slice h2 q2 i2) := ⟨hSb.cell 0, hSb.cell 1, hSb.cell 2, hSb.cell 3, hSb.cell 4, hSb.cell 5, hSb.cell 6, hSb.cell 7, hSb.cell 8, hSb.cell 9⟩; clear hSa hSb; go_simp); first | done | with_reducible rfl)
    (try simp only [Act.put, List.setIfInBounds_toArray, List.set_cons_zero, List.set_cons_succ])
    refine wpAnyH_ready (rs := [4, 5]) (by kernel_rfl) (by simp) ?_
    refine AllReadyH.cons rfl (fun K hK => ?_) (AllReadyH.cons rfl (fun K hK => ?_) AllReadyH.nil)
    · go_simp
      refine hK.out _ _ (HK1.out _) (fun _ => ?_)
      clear hK K
      (try simp only [Act.put, List.setIfInBounds_toArray, List.set_cons_zero, List.set_cons_succ])
      refine wpAnyH_ready (rs := [5]) (by kernel_rfl) (by simp) ?_
      refine AllReadyH.cons rfl (fun K hK => ?_) AllReadyH.nil
      go_simp
      refine hK.out _ _ (HK2.out _ _) (fun _ => ?_)
      clear hK K
      (try simp only [Act.put, List.setIfInBounds_toArray, List.set_cons_zero, List.set_cons_succ])
      refine wpAnyH_ready (rs := [6]) (by kernel_rfl) (by simp) ?_
      refine AllReadyH.cons rfl (fun K hK => ?_) AllReadyH.nil
      go_simp
      refine hK.out _ _ (HK2.out _ _) (fun _ => ?_)
      clear hK K
      (try simp only [Act.put, List.setIfInBounds_toArray, List.set_cons_zero, List.set_cons_succ])
      refine wpAnyH_ready (rs := [7]) (by kernel_rfl) (by simp) ?_
      refine AllReadyH.cons rfl (fun K hK => ?_) AllReadyH.nil
      go_simp
      refine hK.out _ _ (HK2.out _ _) (fun _ => ?_)
      clear hK K
      (try simp only [Act.put, List.setIfInBounds_toArray, List.set_cons_zero, List.set_cons_succ])
      refine wpAnyH_done (by kernel_rfl) ?_ _
      refine NoPanic.normal ?_
      go_wp2_with fail
      go_meet
      exact ⟨_, _, rfl, rfl, (Bk.new W0 _ [_, _, _, _, _, _, _, _, _]).alloc _, Bk.newAt _ _ [_, _, _, _, _, _, _, _, _] (by simp), ((low_alloc _ _).alloc (by simp) _).drew⟩
    · go_simp
      refine hK.out _ _ (HK1.out _) (fun _ => ?_)
      clear hK K
      (try simp only [Act.put, List.setIfInBounds_toArray, List.set_cons_zero, List.set_cons_succ])
      refine wpAnyH_ready (rs := [4]) (by kernel_rfl) (by simp) ?_
      refine AllReadyH.cons rfl (fun K hK => ?_) AllReadyH.nil
      go_simp
      refine hK.out _ _ (HK2.out _ _) (fun _ => ?_)
      clear hK K
      (try simp only [Act.put, List.setIfInBounds_toArray, List.set_cons_zero, List.set_cons_succ])
      refine wpAnyH_ready (rs := [6]) (by kernel_rfl) (by simp) ?_
      refine AllReadyH.cons rfl (fun K hK => ?_) AllReadyH.nil
      go_simp
      refine hK.out _ _ (HK2.out _ _) (fun _ => ?_)
      clear hK K
      (try simp only [Act.put, List.setIfInBounds_toArray, List.set_cons_zero, List.set_cons_succ])
      refine wpAnyH_ready (rs := [7]) (by kernel_rfl) (by simp) ?_
      refine AllReadyH.cons rfl (fun K hK => ?_) AllReadyH.nil
      go_simp
      refine hK.out _ _ (HK2.out _ _) (fun _ => ?_)
      clear hK K
      (try simp only [Act.put, List.setIfInBounds_toArray, List.set_cons_zero, List.set_cons_succ])
      refine wpAnyH_done (by kernel_rfl) ?_ _
      refine NoPanic.normal ?_
      go_wp2_with fail
      go_meet
      exact ⟨_, _, rfl, rfl, Bk.newAt _ _ [_, _, _, _, _, _, _, _, _] (by simp), (Bk.new W0 _ [_, _, _, _, _, _, _, _, _]).alloc _, ((low_alloc _ _).alloc (by simp) _).drew⟩
  case rest =>
    obtain ⟨p, q, rfl, rfl, hp, hq, hb⟩ := hcut
    have hlow := stepAny HL.out hb
    have y0 := (HA.out.below hb HA.out.lt).cell 0
    have z0 := (HB0.out.below hb HB0.out.lt).cell 0
    simp only [List.getElem?_cons_zero] at y0 z0
    obtain ⟨e0, e1, e2, e3, e4, e5, e6, e7, e8⟩ : wc.cell? ⟨p, 0, none⟩ = some (.bool o1) ∧ wc.cell? ⟨p, 1, none⟩ = some (.int .i64 ct1) ∧ wc.cell? ⟨p, 2, none⟩ = some (.int .i64 co1) ∧ wc.cell? ⟨p, 3, none⟩ = some (.int .i64 cp1) ∧ wc.cell? ⟨p, 4, none⟩ = some (.slice f1 p1 g1) ∧ wc.cell? ⟨p, 5, none⟩ = some (.int .i64 l1) ∧ wc.cell? ⟨p, 6, none⟩ = some (.int .i64 lt1) ∧ wc.cell? ⟨p, 7, none⟩ = some (.int .i64 la1) ∧ wc.cell? ⟨p, 8, none⟩ = some (.slice h1 q1 i1) := ⟨hp.cell 0, hp.cell 1, hp.cell 2, hp.cell 3, hp.cell 4, hp.cell 5, hp.cell 6, hp.cell 7, hp.cell 8⟩
    obtain ⟨j0, j1, j2, j3, j4, j5, j6, j7, j8⟩ : wc.cell? ⟨q, 0, none⟩ = some (.bool o2) ∧ wc.cell? ⟨q, 1, none⟩ = some (.int .i64 ct2) ∧ wc.cell? ⟨q, 2, none⟩ = some (.int .i64 co2) ∧ wc.cell? ⟨q, 3, none⟩ = some (.int .i64 cp2) ∧ wc.cell? ⟨q, 4, none⟩ = some (.slice f2 p2 g2) ∧ wc.cell? ⟨q, 5, none⟩ = some (.int .i64 l2) ∧ wc.cell? ⟨q, 6, none⟩ = some (.int .i64 lt2) ∧ wc.cell? ⟨q, 7, none⟩ = some (.int .i64 la2) ∧ wc.cell? ⟨q, 8, none⟩ = some (.slice h2 q2 i2) := ⟨hq.cell 0, hq.cell 1, hq.cell 2, hq.cell 3, hq.cell 4, hq.cell 5, hq.cell 6, hq.cell 7, hq.cell 8⟩
    clear hb hp hq
    iterate 3 (first | go_values | go_skip | go_guarded | go_step | go_upon | go_back)
    simp only [List.append_eq, List.cons_append, List.nil_append]
    go_wp2_with (first | (go_at_call 42; (with_reducible refine (HE.out _ hlow).mono ?_); rintro e w3 ⟨rfl, rfl⟩; dsimp only))
    go_ret
    exact ⟨rfl, hlow⟩

set_option maxRecDepth 100000 in
set_option maxHeartbeats 8000000 in
theorem deq1 (o1 o2 : Bool) (ct1 co1 cp1 l1 lt1 la1 ct2 co2 cp2 l2 lt2 la2 : Int) (a1 f1 h1 a2 f2 h2 : Option Addr) (n1 c1 p1 g1 q1 i1 n2 c2 p2 g2 q2 i2 : Nat) (w : World) (r : Bool) (hne : (o1 == o2) = false)
    (HE : Hid (∀ W, Below w.heap.size w W → Calls Try.prog 42 #[.slice a1 n1 c1, .slice a2 n2 c2, .func (.func 43) #[] #[]] W fun e w' => e = .returned (.bool true) ∧ W = w')) :
    Calls Try.prog 19 #[.agg #[.slice a1 n1 c1, .bool o1, .int .i64 ct1, .int .i64 co1, .int .i64 cp1, .slice f1 p1 g1, .int .i64 l1, .int .i64 lt1, .int .i64 la1, .slice h1 q1 i1], .agg #[.slice a2 n2 c2, .bool o2, .int .i64 ct2, .int .i64 co2, .int .i64 cp2, .slice f2 p2 g2, .int .i64 l2, .int .i64 lt2, .int .i64 la2, .slice h2 q2 i2]] w fun e w' => e = .returned (.bool false) ∧ Below w.heap.size w w' := by
  obtain ⟨W0, hW0⟩ : ∃ W0, W0 = (w.alloc (.cells #[.slice a1 n1 c1, .bool o1, .int .i64 ct1, .int .i64 co1, .int .i64 cp1, .slice f1 p1 g1, .int .i64 l1, .int .i64 lt1, .int .i64 la1, .slice h1 q1 i1] 39 (0, 0))).alloc (.cells #[.slice a2 n2 c2, .bool o2, .int .i64 ct2, .int .i64 co2, .int .i64 cp2, .slice f2 p2 g2, .int .i64 l2, .int .i64 lt2, .int .i64 la2, .slice h2 q2 i2] 39 (0, 0)) := ⟨_, rfl⟩
  have hA : Bk W0 w.heap.size 39 [.slice a1 n1 c1, .bool o1, .int .i64 ct1, .int .i64 co1, .int .i64 cp1, .slice f1 p1 g1, .int .i64 l1, .int .i64 lt1, .int .i64 la1, .slice h1 q1 i1] := by rw [hW0]; exact (Bk.new w _ [_, _, _, _, _, _, _, _, _, _]).alloc _
  have hB : Bk W0 (w.heap.size + 1) 39 [.slice a2 n2 c2, .bool o2, .int .i64 ct2, .int .i64 co2, .int .i64 cp2, .slice f2 p2 g2, .int .i64 l2, .int .i64 lt2, .int .i64 la2, .slice h2 q2 i2] := by rw [hW0]; exact Bk.newAt _ _ [_, _, _, _, _, _, _, _, _, _] (by simp)
  have hL : Below w.heap.size w W0 := by rw [hW0]; exact (low_alloc _ _).alloc (by simp) _
  have hs0 : W0.heap.size = w.heap.size + 1 + 1 := by rw [hW0]; simp
  have HA := Lib.hid hA
  have HB0 := Lib.hid hB
  have HL := Lib.hid hL
  have HS0 := Lib.hid hs0
  clear hA hB hL hs0
  go_enter Try.func19, Try.ntmps19
  go_upto_region 1 with fail
  rw [← hW0]
  clear hW0
  go_cut [5, 6] (fun s5 s6 W' => ∃ p q, s5 = .pointer (some ⟨p, 0, none⟩) ∧ s6 = .pointer (some ⟨q, 0, none⟩) ∧ Bk W' p 37 [.bool o1, .int .i64 ct1, .int .i64 co1, .int .i64 cp1, .slice f1 p1 g1, .int .i64 l1, .int .i64 lt1, .int .i64 la1, .slice h1 q1 i1] ∧ Bk W' q 37 [.bool o2, .int .i64 ct2, .int .i64 co2, .int .i64 cp2, .slice f2 p2 g2, .int .i64 l2, .int .i64 lt2, .int .i64 la2, .slice h2 q2 i2] ∧ Below W0.heap.size W0 W')
  case first =>
    have hS0 : (fun w' => Bk w' w.heap.size 39 [.slice a1 n1 c1, .bool o1, .int .i64 ct1, .int .i64 co1, .int .i64 cp1, .slice f1 p1 g1, .int .i64 l1, .int .i64 lt1, .int .i64 la1, .slice h1 q1 i1] ∧ Bk w' (w.heap.size + 1) 39 [.slice a2 n2 c2, .bool o2, .int .i64 ct2, .int .i64 co2, .int .i64 cp2, .slice f2 p2 g2, .int .i64 l2, .int .i64 lt2, .int .i64 la2, .slice h2 q2 i2]) W0.drew := ⟨HA.out, HB0.out⟩
    have HK1 : Hid (∀ o, Bk (W0.alloc o).drew w.heap.size 39 [.slice a1 n1 c1, .bool o1, .int .i64 ct1, .int .i64 co1, .int .i64 cp1, .slice f1 p1 g1, .int .i64 l1, .int .i64 lt1, .int .i64 la1, .slice h1 q1 i1] ∧ Bk (W0.alloc o).drew (w.heap.size + 1) 39 [.slice a2 n2 c2, .bool o2, .int .i64 ct2, .int .i64 co2, .int .i64 cp2, .slice f2 p2 g2, .int .i64 l2, .int .i64 lt2, .int .i64 la2, .slice h2 q2 i2]) := fun o => ⟨HA.out.alloc o, HB0.out.alloc o⟩
    have HK2 : Hid (∀ o o', Bk ((W0.alloc o).alloc o').drew w.heap.size 39 [.slice a1 n1 c1, .bool o1, .int .i64 ct1, .int .i64 co1, .int .i64 cp1, .slice f1 p1 g1, .int .i64 l1, .int .i64 lt1, .int .i64 la1, .slice h1 q1 i1] ∧ Bk ((W0.alloc o).alloc o').drew (w.heap.size + 1) 39 [.slice a2 n2 c2, .bool o2, .int .i64 ct2, .int .i64 co2, .int .i64 cp2, .slice f2 p2 g2, .int .i64 l2, .int .i64 lt2, .int .i64 la2, .slice h2 q2 i2]) := fun o o' => ⟨(HA.out.alloc o).alloc o', (HB0.out.alloc o).alloc o'⟩
    refine wp_region_noPanic ?_
    refine wp_region_held_drew (S := fun w' => Bk w' w.heap.size 39 [.slice a1 n1 c1, .bool o1, .int .i64 ct1, .int .i64 co1, .int .i64 cp1, .slice f1 p1 g1, .int .i64 l1, .int .i64 lt1, .int .i64 la1, .slice h1 q1 i1] ∧ Bk w' (w.heap.size + 1) 39 [.slice a2 n2 c2, .bool o2, .int .i64 ct2, .int .i64 co2, .int .i64 cp2, .slice f2 p2 g2, .int .i64 l2, .int .i64 lt2, .int .i64 la2, .slice h2 q2 i2]) (by kernel_rfl) hS0 (fun _ => ?_)
    refine wpAnyH_take (i := 0) (oi := ⟨some 7, _, _, _, _, _⟩) (v := ?_) rfl (by kernel_rfl) (by kernel_rfl) (by kernel_rfl) (fun _ _ _ h => h) (Or.inl ⟨by rfl, ?hy0⟩) hS0 ?re0
    case hy0 => ((intro W hSw; obtain ⟨hSa, hSb⟩ := hSw; obtain ⟨x0, x1, x2, x3, x4, x5, x6, x7, x8, x9⟩ : W.cell? ⟨w.heap.size, 0, none⟩ = some (.slice a1 n1 c1) ∧ W.cell? ⟨w.heap.size, 1, none⟩ = some (.bool o1) ∧ W.cell? ⟨w.heap.size, 2, none⟩ = some (.int .i64 ct1) ∧ W.cell? ⟨w.heap.size, 3, none⟩ = some (.int .i64 co1) ∧ W.cell? ⟨w.heap.size, 4, none⟩ = some (.int .i64 cp1) ∧ W.cell? ⟨w.heap.size, 5, none⟩ = some (.slice f1 p1 g1) ∧ W.cell? ⟨w.heap.size, 6, none⟩ = some (.int .i64 l1) ∧ W.cell? ⟨w.heap.size, 7, none⟩ = some (.int .i64 lt1) ∧ W.cell? ⟨w.heap.size, 8, none⟩ = some (.int .i64 la1) ∧ W.cell? ⟨w.heap.size, 9, none⟩ = some (.slice h1 q1 i1) := ⟨hSa.cell 0, hSa.cell 1, hSa.cell 2, hSa.cell 3, hSa.cell 4, hSa.cell 5, hSa.cell 6, hSa.cell 7, hSa.cell 8, hSa.cell 9⟩; obtain ⟨y0, y1, y2, y3, y4, y5, y6, y7, y8, y9⟩ : W.cell? ⟨w.heap.size + 1, 0, none⟩ = some (.slice a2 n2 c2) ∧ W.cell? ⟨w.heap.size + 1, 1, none⟩ = some (.bool o2) ∧ W.cell? ⟨w.heap.size + 1, 2, none⟩ = some (.int .i64 ct2) ∧ W.cell? ⟨w.heap.size + 1, 3, none⟩ = some (.int .i64 co2) ∧ W.cell? ⟨w.heap.size + 1, 4, none⟩ = some (.int .i64 cp2) ∧ W.cell? ⟨w.heap.size + 1, 5, none⟩ = some (.slice f2 p2 g2) ∧ W.cell? ⟨w.heap.size + 1, 6, none⟩ = some (.int .i64 l2) ∧ W.cell? ⟨w.heap.size + 1, 7, none⟩ = some (.int .i64 lt2) ∧ W.cell? ⟨w.heap.size + 1, 8, none⟩ = some (.int .i64 la2) ∧ W.cell? ⟨w.heap.size + 1, 9, none⟩ = some (.slice h2 q2 i2) := ⟨hSb.cell 0, hSb.cell 1, hSb.cell 2, hSb.cell 3, hSb.cell 4, hSb.cell 5, hSb.cell 6, hSb.cell 7, hSb.cell 8, hSb.cell 9⟩; clear hSa hSb; go_simp); first | done | with_reducible rfl)
    (try simp only [Act.put, List.setIfInBounds_toArray, List.set_cons_zero, List.set_cons_succ])
    refine wpAnyH_take (i := 2) (oi := ⟨some 9, _, _, _, _, _⟩) (v := ?_) rfl (by kernel_rfl) (by kernel_rfl) (by kernel_rfl) (fun _ _ _ h => h) (Or.inl ⟨by rfl, ?hy2⟩) hS0 ?re2
    case hy2 => ((intro W hSw; obtain ⟨hSa, hSb⟩ := hSw; obtain ⟨x0, x1, x2, x3, x4, x5, x6, x7, x8, x9⟩ : W.cell? ⟨w.heap.size, 0, none⟩ = some (.slice a1 n1 c1) ∧ W.cell? ⟨w.heap.size, 1, none⟩ = some (.bool o1) ∧ W.cell? ⟨w.heap.size, 2, none⟩ = some (.int .i64 ct1) ∧ W.cell? ⟨w.heap.size, 3, none⟩ = some (.int .i64 co1) ∧ W.cell? ⟨w.heap.size, 4, none⟩ = some (.int .i64 cp1) ∧ W.cell? ⟨w.heap.size, 5, none⟩ = some (.slice f1 p1 g1) ∧ W.cell? ⟨w.heap.size, 6, none⟩ = some (.int .i64 l1) ∧ W.cell? ⟨w.heap.size, 7, none⟩ = some (.int .i64 lt1) ∧ W.cell? ⟨w.heap.size, 8, none⟩ = some (.int .i64 la1) ∧ W.cell? ⟨w.heap.size, 9, none⟩ = some (.slice h1 q1 i1) := ⟨hSa.cell 0, hSa.cell 1, hSa.cell 2, hSa.cell 3, hSa.cell 4, hSa.cell 5, hSa.cell 6, hSa.cell 7, hSa.cell 8, hSa.cell 9⟩; obtain ⟨y0, y1, y2, y3, y4, y5, y6, y7, y8, y9⟩ : W.cell? ⟨w.heap.size + 1, 0, none⟩ = some (.slice a2 n2 c2) ∧ W.cell? ⟨w.heap.size + 1, 1, none⟩ = some (.bool o2) ∧ W.cell? ⟨w.heap.size + 1, 2, none⟩ = some (.int .i64 ct2) ∧ W.cell? ⟨w.heap.size + 1, 3, none⟩ = some (.int .i64 co2) ∧ W.cell? ⟨w.heap.size + 1, 4, none⟩ = some (.int .i64 cp2) ∧ W.cell? ⟨w.heap.size + 1, 5, none⟩ = some (.slice f2 p2 g2) ∧ W.cell? ⟨w.heap.size + 1, 6, none⟩ = some (.int .i64 l2) ∧ W.cell? ⟨w.heap.size + 1, 7, none⟩ = some (.int .i64 lt2) ∧ W.cell? ⟨w.heap.size + 1, 8, none⟩ = some (.int .i64 la2) ∧ W.cell? ⟨w.heap.size + 1, 9, none⟩ = some (.slice h2 q2 i2) := ⟨hSb.cell 0, hSb.cell 1, hSb.cell 2, hSb.cell 3, hSb.cell 4, hSb.cell 5, hSb.cell 6, hSb.cell 7, hSb.cell 8, hSb.cell 9⟩; clear hSa hSb; go_simp); first | done | with_reducible rfl)
    (try simp only [Act.put, List.setIfInBounds_toArray, List.set_cons_zero, List.set_cons_succ])
    refine wpAnyH_take (i := 1) (oi := ⟨some 8, _, _, _, _, _⟩) (v := ?_) rfl (by kernel_rfl) (by kernel_rfl) (by kernel_rfl) (fun _ _ _ h => h) (Or.inl ⟨by rfl, ?hy1⟩) hS0 ?re1
    case hy1 => ((intro W hSw; obtain ⟨hSa, hSb⟩ := hSw; obtain ⟨x0, x1, x2, x3, x4, x5, x6, x7, x8, x9⟩ : W.cell? ⟨w.heap.size, 0, none⟩ = some (.slice a1 n1 c1) ∧ W.cell? ⟨w.heap.size, 1, none⟩ = some (.bool o1) ∧ W.cell? ⟨w.heap.size, 2, none⟩ = some (.int .i64 ct1) ∧ W.cell? ⟨w.heap.size, 3, none⟩ = some (.int .i64 co1) ∧ W.cell? ⟨w.heap.size, 4, none⟩ = some (.int .i64 cp1) ∧ W.cell? ⟨w.heap.size, 5, none⟩ = some (.slice f1 p1 g1) ∧ W.cell? ⟨w.heap.size, 6, none⟩ = some (.int .i64 l1) ∧ W.cell? ⟨w.heap.size, 7, none⟩ = some (.int .i64 lt1) ∧ W.cell? ⟨w.heap.size, 8, none⟩ = some (.int .i64 la1) ∧ W.cell? ⟨w.heap.size, 9, none⟩ = some (.slice h1 q1 i1) := ⟨hSa.cell 0, hSa.cell 1, hSa.cell 2, hSa.cell 3, hSa.cell 4, hSa.cell 5, hSa.cell 6, hSa.cell 7, hSa.cell 8, hSa.cell 9⟩; obtain ⟨y0, y1, y2, y3, y4, y5, y6, y7, y8, y9⟩ : W.cell? ⟨w.heap.size + 1, 0, none⟩ = some (.slice a2 n2 c2) ∧ W.cell? ⟨w.heap.size + 1, 1, none⟩ = some (.bool o2) ∧ W.cell? ⟨w.heap.size + 1, 2, none⟩ = some (.int .i64 ct2) ∧ W.cell? ⟨w.heap.size + 1, 3, none⟩ = some (.int .i64 co2) ∧ W.cell? ⟨w.heap.size + 1, 4, none⟩ = some (.int .i64 cp2) ∧ W.cell? ⟨w.heap.size + 1, 5, none⟩ = some (.slice f2 p2 g2) ∧ W.cell? ⟨w.heap.size + 1, 6, none⟩ = some (.int .i64 l2) ∧ W.cell? ⟨w.heap.size + 1, 7, none⟩ = some (.int .i64 lt2) ∧ W.cell? ⟨w.heap.size + 1, 8, none⟩ = some (.int .i64 la2) ∧ W.cell? ⟨w.heap.size + 1, 9, none⟩ = some (.slice h2 q2 i2) := ⟨hSb.cell 0, hSb.cell 1, hSb.cell 2, hSb.cell 3, hSb.cell 4, hSb.cell 5, hSb.cell 6, hSb.cell 7, hSb.cell 8, hSb.cell 9⟩; clear hSa hSb; go_simp); first | done | with_reducible rfl)
    (try simp only [Act.put, List.setIfInBounds_toArray, List.set_cons_zero, List.set_cons_succ])
    refine wpAnyH_take (i := 3) (oi := ⟨some 10, _, _, _, _, _⟩) (v := ?_) rfl (by kernel_rfl) (by kernel_rfl) (by kernel_rfl) (fun _ _ _ h => h) (Or.inl ⟨by rfl, ?hy3⟩) hS0 ?re3
    case hy3 => ((intro W hSw; obtain ⟨hSa, hSb⟩ := hSw; obtain ⟨x0, x1, x2, x3, x4, x5, x6, x7, x8, x9⟩ : W.cell? ⟨w.heap.size, 0, none⟩ = some (.slice a1 n1 c1) ∧ W.cell? ⟨w.heap.size, 1, none⟩ = some (.bool o1) ∧ W.cell? ⟨w.heap.size, 2, none⟩ = some (.int .i64 ct1) ∧ W.cell? ⟨w.heap.size, 3, none⟩ = some (.int .i64 co1) ∧ W.cell? ⟨w.heap.size, 4, none⟩ = some (.int .i64 cp1) ∧ W.cell? ⟨w.heap.size, 5, none⟩ = some (.slice f1 p1 g1) ∧ W.cell? ⟨w.heap.size, 6, none⟩ = some (.int .i64 l1) ∧ W.cell? ⟨w.heap.size, 7, none⟩ = some (.int .i64 lt1) ∧ W.cell? ⟨w.heap.size, 8, none⟩ = some (.int .i64 la1) ∧ W.cell? ⟨w.heap.size, 9, none⟩ = some (.slice h1 q1 i1) := ⟨hSa.cell 0, hSa.cell 1, hSa.cell 2, hSa.cell 3, hSa.cell 4, hSa.cell 5, hSa.cell 6, hSa.cell 7, hSa.cell 8, hSa.cell 9⟩; obtain ⟨y0, y1, y2, y3, y4, y5, y6, y7, y8, y9⟩ : W.cell? ⟨w.heap.size + 1, 0, none⟩ = some (.slice a2 n2 c2) ∧ W.cell? ⟨w.heap.size + 1, 1, none⟩ = some (.bool o2) ∧ W.cell? ⟨w.heap.size + 1, 2, none⟩ = some (.int .i64 ct2) ∧ W.cell? ⟨w.heap.size + 1, 3, none⟩ = some (.int .i64 co2) ∧ W.cell? ⟨w.heap.size + 1, 4, none⟩ = some (.int .i64 cp2) ∧ W.cell? ⟨w.heap.size + 1, 5, none⟩ = some (.slice f2 p2 g2) ∧ W.cell? ⟨w.heap.size + 1, 6, none⟩ = some (.int .i64 l2) ∧ W.cell? ⟨w.heap.size + 1, 7, none⟩ = some (.int .i64 lt2) ∧ W.cell? ⟨w.heap.size + 1, 8, none⟩ = some (.int .i64 la2) ∧ W.cell? ⟨w.heap.size + 1, 9, none⟩ = some (.slice h2 q2 i2) := ⟨hSb.cell 0, hSb.cell 1, hSb.cell 2, hSb.cell 3, hSb.cell 4, hSb.cell 5, hSb.cell 6, hSb.cell 7, hSb.cell 8, hSb.cell 9⟩; clear hSa hSb; go_simp); first | done | with_reducible rfl)
    (try simp only [Act.put, List.setIfInBounds_toArray, List.set_cons_zero, List.set_cons_succ])
    refine wpAnyH_ready (rs := [4, 5]) (by kernel_rfl) (by simp) ?_
    refine AllReadyH.cons rfl (fun K hK => ?_) (AllReadyH.cons rfl (fun K hK => ?_) AllReadyH.nil)
    · go_simp
      refine hK.out _ _ (HK1.out _) (fun _ => ?_)
      clear hK K
      (try simp only [Act.put, List.setIfInBounds_toArray, List.set_cons_zero, List.set_cons_succ])
      refine wpAnyH_ready (rs := [5]) (by kernel_rfl) (by simp) ?_
      refine AllReadyH.cons rfl (fun K hK => ?_) AllReadyH.nil
      go_simp
      refine hK.out _ _ (HK2.out _ _) (fun _ => ?_)
      clear hK K
      (try simp only [Act.put, List.setIfInBounds_toArray, List.set_cons_zero, List.set_cons_succ])
      refine wpAnyH_ready (rs := [6]) (by kernel_rfl) (by simp) ?_
      refine AllReadyH.cons rfl (fun K hK => ?_) AllReadyH.nil
      go_simp
      refine hK.out _ _ (HK2.out _ _) (fun _ => ?_)
      clear hK K
      (try simp only [Act.put, List.setIfInBounds_toArray, List.set_cons_zero, List.set_cons_succ])
      refine wpAnyH_ready (rs := [7]) (by kernel_rfl) (by simp) ?_
      refine AllReadyH.cons rfl (fun K hK => ?_) AllReadyH.nil
      go_simp
      refine hK.out _ _ (HK2.out _ _) (fun _ => ?_)
      clear hK K
      (try simp only [Act.put, List.setIfInBounds_toArray, List.set_cons_zero, List.set_cons_succ])
      refine wpAnyH_done (by kernel_rfl) ?_ _
      refine NoPanic.normal ?_
      go_wp2_with fail
      go_meet
      exact ⟨_, _, rfl, rfl, (Bk.new W0 _ [_, _, _, _, _, _, _, _, _]).alloc _, Bk.newAt _ _ [_, _, _, _, _, _, _, _, _] (by simp), ((low_alloc _ _).alloc (by simp) _).drew⟩
    · go_simp
      refine hK.out _ _ (HK1.out _) (fun _ => ?_)
      clear hK K
      (try simp only [Act.put, List.setIfInBounds_toArray, List.set_cons_zero, List.set_cons_succ])
      refine wpAnyH_ready (rs := [4]) (by kernel_rfl) (by simp) ?_
      refine AllReadyH.cons rfl (fun K hK => ?_) AllReadyH.nil
      go_simp
      refine hK.out _ _ (HK2.out _ _) (fun _ => ?_)
      clear hK K
      (try simp only [Act.put, List.setIfInBounds_toArray, List.set_cons_zero, List.set_cons_succ])
      refine wpAnyH_ready (rs := [6]) (by kernel_rfl) (by simp) ?_
      refine AllReadyH.cons rfl (fun K hK => ?_) AllReadyH.nil
      go_simp
      refine hK.out _ _ (HK2.out _ _) (fun _ => ?_)
      clear hK K
      (try simp only [Act.put, List.setIfInBounds_toArray, List.set_cons_zero, List.set_cons_succ])
      refine wpAnyH_ready (rs := [7]) (by kernel_rfl) (by simp) ?_
      refine AllReadyH.cons rfl (fun K hK => ?_) AllReadyH.nil
      go_simp
      refine hK.out _ _ (HK2.out _ _) (fun _ => ?_)
      clear hK K
      (try simp only [Act.put, List.setIfInBounds_toArray, List.set_cons_zero, List.set_cons_succ])
      refine wpAnyH_done (by kernel_rfl) ?_ _
      refine NoPanic.normal ?_
      go_wp2_with fail
      go_meet
      exact ⟨_, _, rfl, rfl, Bk.newAt _ _ [_, _, _, _, _, _, _, _, _] (by simp), (Bk.new W0 _ [_, _, _, _, _, _, _, _, _]).alloc _, ((low_alloc _ _).alloc (by simp) _).drew⟩
  case rest =>
    obtain ⟨p, q, rfl, rfl, hp, hq, hb⟩ := hcut
    have hlow := stepAny HL.out hb
    have y0 := (HA.out.below hb HA.out.lt).cell 0
    have z0 := (HB0.out.below hb HB0.out.lt).cell 0
    simp only [List.getElem?_cons_zero] at y0 z0
    obtain ⟨e0, e1, e2, e3, e4, e5, e6, e7, e8⟩ : wc.cell? ⟨p, 0, none⟩ = some (.bool o1) ∧ wc.cell? ⟨p, 1, none⟩ = some (.int .i64 ct1) ∧ wc.cell? ⟨p, 2, none⟩ = some (.int .i64 co1) ∧ wc.cell? ⟨p, 3, none⟩ = some (.int .i64 cp1) ∧ wc.cell? ⟨p, 4, none⟩ = some (.slice f1 p1 g1) ∧ wc.cell? ⟨p, 5, none⟩ = some (.int .i64 l1) ∧ wc.cell? ⟨p, 6, none⟩ = some (.int .i64 lt1) ∧ wc.cell? ⟨p, 7, none⟩ = some (.int .i64 la1) ∧ wc.cell? ⟨p, 8, none⟩ = some (.slice h1 q1 i1) := ⟨hp.cell 0, hp.cell 1, hp.cell 2, hp.cell 3, hp.cell 4, hp.cell 5, hp.cell 6, hp.cell 7, hp.cell 8⟩
    obtain ⟨j0, j1, j2, j3, j4, j5, j6, j7, j8⟩ : wc.cell? ⟨q, 0, none⟩ = some (.bool o2) ∧ wc.cell? ⟨q, 1, none⟩ = some (.int .i64 ct2) ∧ wc.cell? ⟨q, 2, none⟩ = some (.int .i64 co2) ∧ wc.cell? ⟨q, 3, none⟩ = some (.int .i64 cp2) ∧ wc.cell? ⟨q, 4, none⟩ = some (.slice f2 p2 g2) ∧ wc.cell? ⟨q, 5, none⟩ = some (.int .i64 l2) ∧ wc.cell? ⟨q, 6, none⟩ = some (.int .i64 lt2) ∧ wc.cell? ⟨q, 7, none⟩ = some (.int .i64 la2) ∧ wc.cell? ⟨q, 8, none⟩ = some (.slice h2 q2 i2) := ⟨hq.cell 0, hq.cell 1, hq.cell 2, hq.cell 3, hq.cell 4, hq.cell 5, hq.cell 6, hq.cell 7, hq.cell 8⟩
    clear hb hp hq
    iterate 3 (first | go_values | go_skip | go_guarded | go_step | go_upon | go_back)
    simp only [List.append_eq, List.cons_append, List.nil_append]
    go_wp2_with (first | (go_at_call 42; (with_reducible refine (HE.out _ hlow).mono ?_); rintro e w3 ⟨rfl, rfl⟩; dsimp only))
    go_ret
    exact ⟨rfl, hlow⟩

set_option maxRecDepth 100000 in
set_option maxHeartbeats 8000000 in
theorem deq2 (o1 o2 : Bool) (ct1 co1 cp1 l1 lt1 la1 ct2 co2 cp2 l2 lt2 la2 : Int) (a1 f1 h1 a2 f2 h2 : Option Addr) (n1 c1 p1 g1 q1 i1 n2 c2 p2 g2 q2 i2 : Nat) (w : World) (r : Bool) (hne : (l1 == l2) = false)
    (HE : Hid (∀ W, Below w.heap.size w W → Calls Try.prog 42 #[.slice a1 n1 c1, .slice a2 n2 c2, .func (.func 43) #[] #[]] W fun e w' => e = .returned (.bool true) ∧ W = w')) :
    Calls Try.prog 19 #[.agg #[.slice a1 n1 c1, .bool o1, .int .i64 ct1, .int .i64 co1, .int .i64 cp1, .slice f1 p1 g1, .int .i64 l1, .int .i64 lt1, .int .i64 la1, .slice h1 q1 i1], .agg #[.slice a2 n2 c2, .bool o1, .int .i64 ct2, .int .i64 co2, .int .i64 cp2, .slice f2 p2 g2, .int .i64 l2, .int .i64 lt2, .int .i64 la2, .slice h2 q2 i2]] w fun e w' => e = .returned (.bool false) ∧ Below w.heap.size w w' := by
  obtain ⟨W0, hW0⟩ : ∃ W0, W0 = (w.alloc (.cells #[.slice a1 n1 c1, .bool o1, .int .i64 ct1, .int .i64 co1, .int .i64 cp1, .slice f1 p1 g1, .int .i64 l1, .int .i64 lt1, .int .i64 la1, .slice h1 q1 i1] 39 (0, 0))).alloc (.cells #[.slice a2 n2 c2, .bool o1, .int .i64 ct2, .int .i64 co2, .int .i64 cp2, .slice f2 p2 g2, .int .i64 l2, .int .i64 lt2, .int .i64 la2, .slice h2 q2 i2] 39 (0, 0)) := ⟨_, rfl⟩
  have hA : Bk W0 w.heap.size 39 [.slice a1 n1 c1, .bool o1, .int .i64 ct1, .int .i64 co1, .int .i64 cp1, .slice f1 p1 g1, .int .i64 l1, .int .i64 lt1, .int .i64 la1, .slice h1 q1 i1] := by rw [hW0]; exact (Bk.new w _ [_, _, _, _, _, _, _, _, _, _]).alloc _
  have hB : Bk W0 (w.heap.size + 1) 39 [.slice a2 n2 c2, .bool o1, .int .i64 ct2, .int .i64 co2, .int .i64 cp2, .slice f2 p2 g2, .int .i64 l2, .int .i64 lt2, .int .i64 la2, .slice h2 q2 i2] := by rw [hW0]; exact Bk.newAt _ _ [_, _, _, _, _, _, _, _, _, _] (by simp)
  have hL : Below w.heap.size w W0 := by rw [hW0]; exact (low_alloc _ _).alloc (by simp) _
  have hs0 : W0.heap.size = w.heap.size + 1 + 1 := by rw [hW0]; simp
  have HA := Lib.hid hA
  have HB0 := Lib.hid hB
  have HL := Lib.hid hL
  have HS0 := Lib.hid hs0
  clear hA hB hL hs0
  go_enter Try.func19, Try.ntmps19
  go_upto_region 1 with fail
  rw [← hW0]
  clear hW0
  go_cut [5, 6] (fun s5 s6 W' => ∃ p q, s5 = .pointer (some ⟨p, 0, none⟩) ∧ s6 = .pointer (some ⟨q, 0, none⟩) ∧ Bk W' p 37 [.bool o1, .int .i64 ct1, .int .i64 co1, .int .i64 cp1, .slice f1 p1 g1, .int .i64 l1, .int .i64 lt1, .int .i64 la1, .slice h1 q1 i1] ∧ Bk W' q 37 [.bool o1, .int .i64 ct2, .int .i64 co2, .int .i64 cp2, .slice f2 p2 g2, .int .i64 l2, .int .i64 lt2, .int .i64 la2, .slice h2 q2 i2] ∧ Below W0.heap.size W0 W')
  case first =>
    have hS0 : (fun w' => Bk w' w.heap.size 39 [.slice a1 n1 c1, .bool o1, .int .i64 ct1, .int .i64 co1, .int .i64 cp1, .slice f1 p1 g1, .int .i64 l1, .int .i64 lt1, .int .i64 la1, .slice h1 q1 i1] ∧ Bk w' (w.heap.size + 1) 39 [.slice a2 n2 c2, .bool o1, .int .i64 ct2, .int .i64 co2, .int .i64 cp2, .slice f2 p2 g2, .int .i64 l2, .int .i64 lt2, .int .i64 la2, .slice h2 q2 i2]) W0.drew := ⟨HA.out, HB0.out⟩
    have HK1 : Hid (∀ o, Bk (W0.alloc o).drew w.heap.size 39 [.slice a1 n1 c1, .bool o1, .int .i64 ct1, .int .i64 co1, .int .i64 cp1, .slice f1 p1 g1, .int .i64 l1, .int .i64 lt1, .int .i64 la1, .slice h1 q1 i1] ∧ Bk (W0.alloc o).drew (w.heap.size + 1) 39 [.slice a2 n2 c2, .bool o1, .int .i64 ct2, .int .i64 co2, .int .i64 cp2, .slice f2 p2 g2, .int .i64 l2, .int .i64 lt2, .int .i64 la2, .slice h2 q2 i2]) := fun o => ⟨HA.out.alloc o, HB0.out.alloc o⟩
    have HK2 : Hid (∀ o o', Bk ((W0.alloc o).alloc o').drew w.heap.size 39 [.slice a1 n1 c1, .bool o1, .int .i64 ct1, .int .i64 co1, .int .i64 cp1, .slice f1 p1 g1, .int .i64 l1, .int .i64 lt1, .int .i64 la1, .slice h1 q1 i1] ∧ Bk ((W0.alloc o).alloc o').drew (w.heap.size + 1) 39 [.slice a2 n2 c2, .bool o1, .int .i64 ct2, .int .i64 co2, .int .i64 cp2, .slice f2 p2 g2, .int .i64 l2, .int .i64 lt2, .int .i64 la2, .slice h2 q2 i2]) := fun o o' => ⟨(HA.out.alloc o).alloc o', (HB0.out.alloc o).alloc o'⟩
    refine wp_region_noPanic ?_
    refine wp_region_held_drew (S := fun w' => Bk w' w.heap.size 39 [.slice a1 n1 c1, .bool o1, .int .i64 ct1, .int .i64 co1, .int .i64 cp1, .slice f1 p1 g1, .int .i64 l1, .int .i64 lt1, .int .i64 la1, .slice h1 q1 i1] ∧ Bk w' (w.heap.size + 1) 39 [.slice a2 n2 c2, .bool o1, .int .i64 ct2, .int .i64 co2, .int .i64 cp2, .slice f2 p2 g2, .int .i64 l2, .int .i64 lt2, .int .i64 la2, .slice h2 q2 i2]) (by kernel_rfl) hS0 (fun _ => ?_)
    refine wpAnyH_take (i := 0) (oi := ⟨some 7, _, _, _, _, _⟩) (v := ?_) rfl (by kernel_rfl) (by kernel_rfl) (by kernel_rfl) (fun _ _ _ h => h) (Or.inl ⟨by rfl, ?hy0⟩) hS0 ?re0
    case hy0 => ((intro W hSw; obtain ⟨hSa, hSb⟩ := hSw; obtain ⟨x0, x1, x2, x3, x4, x5, x6, x7, x8, x9⟩ : W.cell? ⟨w.heap.size, 0, none⟩ = some (.slice a1 n1 c1) ∧ W.cell? ⟨w.heap.size, 1, none⟩ = some (.bool o1) ∧ W.cell? ⟨w.heap.size, 2, none⟩ = some (.int .i64 ct1) ∧ W.cell? ⟨w.heap.size, 3, none⟩ = some (.int .i64 co1) ∧ W.cell? ⟨w.heap.size, 4, none⟩ = some (.int .i64 cp1) ∧ W.cell? ⟨w.heap.size, 5, none⟩ = some (.slice f1 p1 g1) ∧ W.cell? ⟨w.heap.size, 6, none⟩ = some (.int .i64 l1) ∧ W.cell? ⟨w.heap.size, 7, none⟩ = some (.int .i64 lt1) ∧ W.cell? ⟨w.heap.size, 8, none⟩ = some (.int .i64 la1) ∧ W.cell? ⟨w.heap.size, 9, none⟩ = some (.slice h1 q1 i1) := ⟨hSa.cell 0, hSa.cell 1, hSa.cell 2, hSa.cell 3, hSa.cell 4, hSa.cell 5, hSa.cell 6, hSa.cell 7, hSa.cell 8, hSa.cell 9⟩; obtain ⟨y0, y1, y2, y3, y4, y5, y6, y7, y8, y9⟩ : W.cell? ⟨w.heap.size + 1, 0, none⟩ = some (.slice a2 n2 c2) ∧ W.cell? ⟨w.heap.size + 1, 1, none⟩ = some (.bool o1) ∧ W.cell? ⟨w.heap.size + 1, 2, none⟩ = some (.int .i64 ct2) ∧ W.cell? ⟨w.heap.size + 1, 3, none⟩ = some (.int .i64 co2) ∧ W.cell? ⟨w.heap.size + 1, 4, none⟩ = some (.int .i64 cp2) ∧ W.cell? ⟨w.heap.size + 1, 5, none⟩ = some (.slice f2 p2 g2) ∧ W.cell? ⟨w.heap.size + 1, 6, none⟩ = some (.int .i64 l2) ∧ W.cell? ⟨w.heap.size + 1, 7, none⟩ = some (.int .i64 lt2) ∧ W.cell? ⟨w.heap.size + 1, 8, none⟩ = some (.int .i64 la2) ∧ W.cell? ⟨w.heap.size + 1, 9, none⟩ = some (.slice h2 q2 i2) := ⟨hSb.cell 0, hSb.cell 1, hSb.cell 2, hSb.cell 3, hSb.cell 4, hSb.cell 5, hSb.cell 6, hSb.cell 7, hSb.cell 8, hSb.cell 9⟩; clear hSa hSb; go_simp); first | done | with_reducible rfl)
    (try simp only [Act.put, List.setIfInBounds_toArray, List.set_cons_zero, List.set_cons_succ])
    refine wpAnyH_take (i := 2) (oi := ⟨some 9, _, _, _, _, _⟩) (v := ?_) rfl (by kernel_rfl) (by kernel_rfl) (by kernel_rfl) (fun _ _ _ h => h) (Or.inl ⟨by rfl, ?hy2⟩) hS0 ?re2
    case hy2 => ((intro W hSw; obtain ⟨hSa, hSb⟩ := hSw; obtain ⟨x0, x1, x2, x3, x4, x5, x6, x7, x8, x9⟩ : W.cell? ⟨w.heap.size, 0, none⟩ = some (.slice a1 n1 c1) ∧ W.cell? ⟨w.heap.size, 1, none⟩ = some (.bool o1) ∧ W.cell? ⟨w.heap.size, 2, none⟩ = some (.int .i64 ct1) ∧ W.cell? ⟨w.heap.size, 3, none⟩ = some (.int .i64 co1) ∧ W.cell? ⟨w.heap.size, 4, none⟩ = some (.int .i64 cp1) ∧ W.cell? ⟨w.heap.size, 5, none⟩ = some (.slice f1 p1 g1) ∧ W.cell? ⟨w.heap.size, 6, none⟩ = some (.int .i64 l1) ∧ W.cell? ⟨w.heap.size, 7, none⟩ = some (.int .i64 lt1) ∧ W.cell? ⟨w.heap.size, 8, none⟩ = some (.int .i64 la1) ∧ W.cell? ⟨w.heap.size, 9, none⟩ = some (.slice h1 q1 i1) := ⟨hSa.cell 0, hSa.cell 1, hSa.cell 2, hSa.cell 3, hSa.cell 4, hSa.cell 5, hSa.cell 6, hSa.cell 7, hSa.cell 8, hSa.cell 9⟩; obtain ⟨y0, y1, y2, y3, y4, y5, y6, y7, y8, y9⟩ : W.cell? ⟨w.heap.size + 1, 0, none⟩ = some (.slice a2 n2 c2) ∧ W.cell? ⟨w.heap.size + 1, 1, none⟩ = some (.bool o1) ∧ W.cell? ⟨w.heap.size + 1, 2, none⟩ = some (.int .i64 ct2) ∧ W.cell? ⟨w.heap.size + 1, 3, none⟩ = some (.int .i64 co2) ∧ W.cell? ⟨w.heap.size + 1, 4, none⟩ = some (.int .i64 cp2) ∧ W.cell? ⟨w.heap.size + 1, 5, none⟩ = some (.slice f2 p2 g2) ∧ W.cell? ⟨w.heap.size + 1, 6, none⟩ = some (.int .i64 l2) ∧ W.cell? ⟨w.heap.size + 1, 7, none⟩ = some (.int .i64 lt2) ∧ W.cell? ⟨w.heap.size + 1, 8, none⟩ = some (.int .i64 la2) ∧ W.cell? ⟨w.heap.size + 1, 9, none⟩ = some (.slice h2 q2 i2) := ⟨hSb.cell 0, hSb.cell 1, hSb.cell 2, hSb.cell 3, hSb.cell 4, hSb.cell 5, hSb.cell 6, hSb.cell 7, hSb.cell 8, hSb.cell 9⟩; clear hSa hSb; go_simp); first | done | with_reducible rfl)
    (try simp only [Act.put, List.setIfInBounds_toArray, List.set_cons_zero, List.set_cons_succ])
    refine wpAnyH_take (i := 1) (oi := ⟨some 8, _, _, _, _, _⟩) (v := ?_) rfl (by kernel_rfl) (by kernel_rfl) (by kernel_rfl) (fun _ _ _ h => h) (Or.inl ⟨by rfl, ?hy1⟩) hS0 ?re1
    case hy1 => ((intro W hSw; obtain ⟨hSa, hSb⟩ := hSw; obtain ⟨x0, x1, x2, x3, x4, x5, x6, x7, x8, x9⟩ : W.cell? ⟨w.heap.size, 0, none⟩ = some (.slice a1 n1 c1) ∧ W.cell? ⟨w.heap.size, 1, none⟩ = some (.bool o1) ∧ W.cell? ⟨w.heap.size, 2, none⟩ = some (.int .i64 ct1) ∧ W.cell? ⟨w.heap.size, 3, none⟩ = some (.int .i64 co1) ∧ W.cell? ⟨w.heap.size, 4, none⟩ = some (.int .i64 cp1) ∧ W.cell? ⟨w.heap.size, 5, none⟩ = some (.slice f1 p1 g1) ∧ W.cell? ⟨w.heap.size, 6, none⟩ = some (.int .i64 l1) ∧ W.cell? ⟨w.heap.size, 7, none⟩ = some (.int .i64 lt1) ∧ W.cell? ⟨w.heap.size, 8, none⟩ = some (.int .i64 la1) ∧ W.cell? ⟨w.heap.size, 9, none⟩ = some (.slice h1 q1 i1) := ⟨hSa.cell 0, hSa.cell 1, hSa.cell 2, hSa.cell 3, hSa.cell 4, hSa.cell 5, hSa.cell 6, hSa.cell 7, hSa.cell 8, hSa.cell 9⟩; obtain ⟨y0, y1, y2, y3, y4, y5, y6, y7, y8, y9⟩ : W.cell? ⟨w.heap.size + 1, 0, none⟩ = some (.slice a2 n2 c2) ∧ W.cell? ⟨w.heap.size + 1, 1, none⟩ = some (.bool o1) ∧ W.cell? ⟨w.heap.size + 1, 2, none⟩ = some (.int .i64 ct2) ∧ W.cell? ⟨w.heap.size + 1, 3, none⟩ = some (.int .i64 co2) ∧ W.cell? ⟨w.heap.size + 1, 4, none⟩ = some (.int .i64 cp2) ∧ W.cell? ⟨w.heap.size + 1, 5, none⟩ = some (.slice f2 p2 g2) ∧ W.cell? ⟨w.heap.size + 1, 6, none⟩ = some (.int .i64 l2) ∧ W.cell? ⟨w.heap.size + 1, 7, none⟩ = some (.int .i64 lt2) ∧ W.cell? ⟨w.heap.size + 1, 8, none⟩ = some (.int .i64 la2) ∧ W.cell? ⟨w.heap.size + 1, 9, none⟩ = some (.slice h2 q2 i2) := ⟨hSb.cell 0, hSb.cell 1, hSb.cell 2, hSb.cell 3, hSb.cell 4, hSb.cell 5, hSb.cell 6, hSb.cell 7, hSb.cell 8, hSb.cell 9⟩; clear hSa hSb; go_simp); first | done | with_reducible rfl)
    (try simp only [Act.put, List.setIfInBounds_toArray, List.set_cons_zero, List.set_cons_succ])
    refine wpAnyH_take (i := 3) (oi := ⟨some 10, _, _, _, _, _⟩) (v := ?_) rfl (by kernel_rfl) (by kernel_rfl) (by kernel_rfl) (fun _ _ _ h => h) (Or.inl ⟨by rfl, ?hy3⟩) hS0 ?re3
    case hy3 => ((intro W hSw; obtain ⟨hSa, hSb⟩ := hSw; obtain ⟨x0, x1, x2, x3, x4, x5, x6, x7, x8, x9⟩ : W.cell? ⟨w.heap.size, 0, none⟩ = some (.slice a1 n1 c1) ∧ W.cell? ⟨w.heap.size, 1, none⟩ = some (.bool o1) ∧ W.cell? ⟨w.heap.size, 2, none⟩ = some (.int .i64 ct1) ∧ W.cell? ⟨w.heap.size, 3, none⟩ = some (.int .i64 co1) ∧ W.cell? ⟨w.heap.size, 4, none⟩ = some (.int .i64 cp1) ∧ W.cell? ⟨w.heap.size, 5, none⟩ = some (.slice f1 p1 g1) ∧ W.cell? ⟨w.heap.size, 6, none⟩ = some (.int .i64 l1) ∧ W.cell? ⟨w.heap.size, 7, none⟩ = some (.int .i64 lt1) ∧ W.cell? ⟨w.heap.size, 8, none⟩ = some (.int .i64 la1) ∧ W.cell? ⟨w.heap.size, 9, none⟩ = some (.slice h1 q1 i1) := ⟨hSa.cell 0, hSa.cell 1, hSa.cell 2, hSa.cell 3, hSa.cell 4, hSa.cell 5, hSa.cell 6, hSa.cell 7, hSa.cell 8, hSa.cell 9⟩; obtain ⟨y0, y1, y2, y3, y4, y5, y6, y7, y8, y9⟩ : W.cell? ⟨w.heap.size + 1, 0, none⟩ = some (.slice a2 n2 c2) ∧ W.cell? ⟨w.heap.size + 1, 1, none⟩ = some (.bool o1) ∧ W.cell? ⟨w.heap.size + 1, 2, none⟩ = some (.int .i64 ct2) ∧ W.cell? ⟨w.heap.size + 1, 3, none⟩ = some (.int .i64 co2) ∧ W.cell? ⟨w.heap.size + 1, 4, none⟩ = some (.int .i64 cp2) ∧ W.cell? ⟨w.heap.size + 1, 5, none⟩ = some (.slice f2 p2 g2) ∧ W.cell? ⟨w.heap.size + 1, 6, none⟩ = some (.int .i64 l2) ∧ W.cell? ⟨w.heap.size + 1, 7, none⟩ = some (.int .i64 lt2) ∧ W.cell? ⟨w.heap.size + 1, 8, none⟩ = some (.int .i64 la2) ∧ W.cell? ⟨w.heap.size + 1, 9, none⟩ = some (.slice h2 q2 i2) := ⟨hSb.cell 0, hSb.cell 1, hSb.cell 2, hSb.cell 3, hSb.cell 4, hSb.cell 5, hSb.cell 6, hSb.cell 7, hSb.cell 8, hSb.cell 9⟩; clear hSa hSb; go_simp); first | done | with_reducible rfl)
    (try simp only [Act.put, List.setIfInBounds_toArray, List.set_cons_zero, List.set_cons_succ])
    refine wpAnyH_ready (rs := [4, 5]) (by kernel_rfl) (by simp) ?_
    refine AllReadyH.cons rfl (fun K hK => ?_) (AllReadyH.cons rfl (fun K hK => ?_) AllReadyH.nil)
    · go_simp
      refine hK.out _ _ (HK1.out _) (fun _ => ?_)
      clear hK K
      (try simp only [Act.put, List.setIfInBounds_toArray, List.set_cons_zero, List.set_cons_succ])
      refine wpAnyH_ready (rs := [5]) (by kernel_rfl) (by simp) ?_
      refine AllReadyH.cons rfl (fun K hK => ?_) AllReadyH.nil
      go_simp
      refine hK.out _ _ (HK2.out _ _) (fun _ => ?_)
      clear hK K
      (try simp only [Act.put, List.setIfInBounds_toArray, List.set_cons_zero, List.set_cons_succ])
      refine wpAnyH_ready (rs := [6]) (by kernel_rfl) (by simp) ?_
      refine AllReadyH.cons rfl (fun K hK => ?_) AllReadyH.nil
      go_simp
      refine hK.out _ _ (HK2.out _ _) (fun _ => ?_)
      clear hK K
      (try simp only [Act.put, List.setIfInBounds_toArray, List.set_cons_zero, List.set_cons_succ])
      refine wpAnyH_ready (rs := [7]) (by kernel_rfl) (by simp) ?_
      refine AllReadyH.cons rfl (fun K hK => ?_) AllReadyH.nil
      go_simp
      refine hK.out _ _ (HK2.out _ _) (fun _ => ?_)
      clear hK K
      (try simp only [Act.put, List.setIfInBounds_toArray, List.set_cons_zero, List.set_cons_succ])
      refine wpAnyH_done (by kernel_rfl) ?_ _
      refine NoPanic.normal ?_
      go_wp2_with fail
      go_meet
      exact ⟨_, _, rfl, rfl, (Bk.new W0 _ [_, _, _, _, _, _, _, _, _]).alloc _, Bk.newAt _ _ [_, _, _, _, _, _, _, _, _] (by simp), ((low_alloc _ _).alloc (by simp) _).drew⟩
    · go_simp
      refine hK.out _ _ (HK1.out _) (fun _ => ?_)
      clear hK K
      (try simp only [Act.put, List.setIfInBounds_toArray, List.set_cons_zero, List.set_cons_succ])
      refine wpAnyH_ready (rs := [4]) (by kernel_rfl) (by simp) ?_
      refine AllReadyH.cons rfl (fun K hK => ?_) AllReadyH.nil
      go_simp
      refine hK.out _ _ (HK2.out _ _) (fun _ => ?_)
      clear hK K
      (try simp only [Act.put, List.setIfInBounds_toArray, List.set_cons_zero, List.set_cons_succ])
      refine wpAnyH_ready (rs := [6]) (by kernel_rfl) (by simp) ?_
      refine AllReadyH.cons rfl (fun K hK => ?_) AllReadyH.nil
      go_simp
      refine hK.out _ _ (HK2.out _ _) (fun _ => ?_)
      clear hK K
      (try simp only [Act.put, List.setIfInBounds_toArray, List.set_cons_zero, List.set_cons_succ])
      refine wpAnyH_ready (rs := [7]) (by kernel_rfl) (by simp) ?_
      refine AllReadyH.cons rfl (fun K hK => ?_) AllReadyH.nil
      go_simp
      refine hK.out _ _ (HK2.out _ _) (fun _ => ?_)
      clear hK K
      (try simp only [Act.put, List.setIfInBounds_toArray, List.set_cons_zero, List.set_cons_succ])
      refine wpAnyH_done (by kernel_rfl) ?_ _
      refine NoPanic.normal ?_
      go_wp2_with fail
      go_meet
      exact ⟨_, _, rfl, rfl, Bk.newAt _ _ [_, _, _, _, _, _, _, _, _] (by simp), (Bk.new W0 _ [_, _, _, _, _, _, _, _, _]).alloc _, ((low_alloc _ _).alloc (by simp) _).drew⟩
  case rest =>
    obtain ⟨p, q, rfl, rfl, hp, hq, hb⟩ := hcut
    have hlow := stepAny HL.out hb
    have y0 := (HA.out.below hb HA.out.lt).cell 0
    have z0 := (HB0.out.below hb HB0.out.lt).cell 0
    simp only [List.getElem?_cons_zero] at y0 z0
    obtain ⟨e0, e1, e2, e3, e4, e5, e6, e7, e8⟩ : wc.cell? ⟨p, 0, none⟩ = some (.bool o1) ∧ wc.cell? ⟨p, 1, none⟩ = some (.int .i64 ct1) ∧ wc.cell? ⟨p, 2, none⟩ = some (.int .i64 co1) ∧ wc.cell? ⟨p, 3, none⟩ = some (.int .i64 cp1) ∧ wc.cell? ⟨p, 4, none⟩ = some (.slice f1 p1 g1) ∧ wc.cell? ⟨p, 5, none⟩ = some (.int .i64 l1) ∧ wc.cell? ⟨p, 6, none⟩ = some (.int .i64 lt1) ∧ wc.cell? ⟨p, 7, none⟩ = some (.int .i64 la1) ∧ wc.cell? ⟨p, 8, none⟩ = some (.slice h1 q1 i1) := ⟨hp.cell 0, hp.cell 1, hp.cell 2, hp.cell 3, hp.cell 4, hp.cell 5, hp.cell 6, hp.cell 7, hp.cell 8⟩
    obtain ⟨j0, j1, j2, j3, j4, j5, j6, j7, j8⟩ : wc.cell? ⟨q, 0, none⟩ = some (.bool o1) ∧ wc.cell? ⟨q, 1, none⟩ = some (.int .i64 ct2) ∧ wc.cell? ⟨q, 2, none⟩ = some (.int .i64 co2) ∧ wc.cell? ⟨q, 3, none⟩ = some (.int .i64 cp2) ∧ wc.cell? ⟨q, 4, none⟩ = some (.slice f2 p2 g2) ∧ wc.cell? ⟨q, 5, none⟩ = some (.int .i64 l2) ∧ wc.cell? ⟨q, 6, none⟩ = some (.int .i64 lt2) ∧ wc.cell? ⟨q, 7, none⟩ = some (.int .i64 la2) ∧ wc.cell? ⟨q, 8, none⟩ = some (.slice h2 q2 i2) := ⟨hq.cell 0, hq.cell 1, hq.cell 2, hq.cell 3, hq.cell 4, hq.cell 5, hq.cell 6, hq.cell 7, hq.cell 8⟩
    clear hb hp hq
    iterate 3 (first | go_values | go_skip | go_guarded | go_step | go_upon | go_back)
    simp only [List.append_eq, List.cons_append, List.nil_append]
    go_wp2_with (first | (go_at_call 42; (with_reducible refine (HE.out _ hlow).mono ?_); rintro e w3 ⟨rfl, rfl⟩; dsimp only))
    go_ret
    exact ⟨rfl, hlow⟩

set_option maxRecDepth 100000 in
set_option maxHeartbeats 8000000 in
theorem deq3 (o1 o2 : Bool) (ct1 co1 cp1 l1 lt1 la1 ct2 co2 cp2 l2 lt2 la2 : Int) (a1 f1 h1 a2 f2 h2 : Option Addr) (n1 c1 p1 g1 q1 i1 n2 c2 p2 g2 q2 i2 : Nat) (w : World) (r : Bool) (hne : (ct1 == ct2) = false)
    (HE : Hid (∀ W, Below w.heap.size w W → Calls Try.prog 42 #[.slice a1 n1 c1, .slice a2 n2 c2, .func (.func 43) #[] #[]] W fun e w' => e = .returned (.bool true) ∧ W = w')) :
    Calls Try.prog 19 #[.agg #[.slice a1 n1 c1, .bool o1, .int .i64 ct1, .int .i64 co1, .int .i64 cp1, .slice f1 p1 g1, .int .i64 l1, .int .i64 lt1, .int .i64 la1, .slice h1 q1 i1], .agg #[.slice a2 n2 c2, .bool o1, .int .i64 ct2, .int .i64 co2, .int .i64 cp2, .slice f2 p2 g2, .int .i64 l1, .int .i64 lt2, .int .i64 la2, .slice h2 q2 i2]] w fun e w' => e = .returned (.bool false) ∧ Below w.heap.size w w' := by
  obtain ⟨W0, hW0⟩ : ∃ W0, W0 = (w.alloc (.cells #[.slice a1 n1 c1, .bool o1, .int .i64 ct1, .int .i64 co1, .int .i64 cp1, .slice f1 p1 g1, .int .i64 l1, .int .i64 lt1, .int .i64 la1, .slice h1 q1 i1] 39 (0, 0))).alloc (.cells #[.slice a2 n2 c2, .bool o1, .int .i64 ct2, .int .i64 co2, .int .i64 cp2, .slice f2 p2 g2, .int .i64 l1, .int .i64 lt2, .int .i64 la2, .slice h2 q2 i2] 39 (0, 0)) := ⟨_, rfl⟩
  have hA : Bk W0 w.heap.size 39 [.slice a1 n1 c1, .bool o1, .int .i64 ct1, .int .i64 co1, .int .i64 cp1, .slice f1 p1 g1, .int .i64 l1, .int .i64 lt1, .int .i64 la1, .slice h1 q1 i1] := by rw [hW0]; exact (Bk.new w _ [_, _, _, _, _, _, _, _, _, _]).alloc _
  have hB : Bk W0 (w.heap.size + 1) 39 [.slice a2 n2 c2, .bool o1, .int .i64 ct2, .int .i64 co2, .int .i64 cp2, .slice f2 p2 g2, .int .i64 l1, .int .i64 lt2, .int .i64 la2, .slice h2 q2 i2] := by rw [hW0]; exact Bk.newAt _ _ [_, _, _, _, _, _, _, _, _, _] (by simp)
  have hL : Below w.heap.size w W0 := by rw [hW0]; exact (low_alloc _ _).alloc (by simp) _
  have hs0 : W0.heap.size = w.heap.size + 1 + 1 := by rw [hW0]; simp
  have HA := Lib.hid hA
  have HB0 := Lib.hid hB
  have HL := Lib.hid hL
  have HS0 := Lib.hid hs0
  clear hA hB hL hs0
  go_enter Try.func19, Try.ntmps19
  go_upto_region 1 with fail
  rw [← hW0]
  clear hW0
  go_cut [5, 6] (fun s5 s6 W' => ∃ p q, s5 = .pointer (some ⟨p, 0, none⟩) ∧ s6 = .pointer (some ⟨q, 0, none⟩) ∧ Bk W' p 37 [.bool o1, .int .i64 ct1, .int .i64 co1, .int .i64 cp1, .slice f1 p1 g1, .int .i64 l1, .int .i64 lt1, .int .i64 la1, .slice h1 q1 i1] ∧ Bk W' q 37 [.bool o1, .int .i64 ct2, .int .i64 co2, .int .i64 cp2, .slice f2 p2 g2, .int .i64 l1, .int .i64 lt2, .int .i64 la2, .slice h2 q2 i2] ∧ Below W0.heap.size W0 W')
  case first =>
    have hS0 : (fun w' => Bk w' w.heap.size 39 [.slice a1 n1 c1, .bool o1, .int .i64 ct1, .int .i64 co1, .int .i64 cp1, .slice f1 p1 g1, .int .i64 l1, .int .i64 lt1, .int .i64 la1, .slice h1 q1 i1] ∧ Bk w' (w.heap.size + 1) 39 [.slice a2 n2 c2, .bool o1, .int .i64 ct2, .int .i64 co2, .int .i64 cp2, .slice f2 p2 g2, .int .i64 l1, .int .i64 lt2, .int .i64 la2, .slice h2 q2 i2]) W0.drew := ⟨HA.out, HB0.out⟩
    have HK1 : Hid (∀ o, Bk (W0.alloc o).drew w.heap.size 39 [.slice a1 n1 c1, .bool o1, .int .i64 ct1, .int .i64 co1, .int .i64 cp1, .slice f1 p1 g1, .int .i64 l1, .int .i64 lt1, .int .i64 la1, .slice h1 q1 i1] ∧ Bk (W0.alloc o).drew (w.heap.size + 1) 39 [.slice a2 n2 c2, .bool o1, .int .i64 ct2, .int .i64 co2, .int .i64 cp2, .slice f2 p2 g2, .int .i64 l1, .int .i64 lt2, .int .i64 la2, .slice h2 q2 i2]) := fun o => ⟨HA.out.alloc o, HB0.out.alloc o⟩
    have HK2 : Hid (∀ o o', Bk ((W0.alloc o).alloc o').drew w.heap.size 39 [.slice a1 n1 c1, .bool o1, .int .i64 ct1, .int .i64 co1, .int .i64 cp1, .slice f1 p1 g1, .int .i64 l1, .int .i64 lt1, .int .i64 la1, .slice h1 q1 i1] ∧ Bk ((W0.alloc o).alloc o').drew (w.heap.size + 1) 39 [.slice a2 n2 c2, .bool o1, .int .i64 ct2, .int .i64 co2, .int .i64 cp2, .slice f2 p2 g2, .int .i64 l1, .int .i64 lt2, .int .i64 la2, .slice h2 q2 i2]) := fun o o' => ⟨(HA.out.alloc o).alloc o', (HB0.out.alloc o).alloc o'⟩
    refine wp_region_noPanic ?_
    refine wp_region_held_drew (S := fun w' => Bk w' w.heap.size 39 [.slice a1 n1 c1, .bool o1, .int .i64 ct1, .int .i64 co1, .int .i64 cp1, .slice f1 p1 g1, .int .i64 l1, .int .i64 lt1, .int .i64 la1, .slice h1 q1 i1] ∧ Bk w' (w.heap.size + 1) 39 [.slice a2 n2 c2, .bool o1, .int .i64 ct2, .int .i64 co2, .int .i64 cp2, .slice f2 p2 g2, .int .i64 l1, .int .i64 lt2, .int .i64 la2, .slice h2 q2 i2]) (by kernel_rfl) hS0 (fun _ => ?_)
    refine wpAnyH_take (i := 0) (oi := ⟨some 7, _, _, _, _, _⟩) (v := ?_) rfl (by kernel_rfl) (by kernel_rfl) (by kernel_rfl) (fun _ _ _ h => h) (Or.inl ⟨by rfl, ?hy0⟩) hS0 ?re0
    case hy0 => ((intro W hSw; obtain ⟨hSa, hSb⟩ := hSw; obtain ⟨x0, x1, x2, x3, x4, x5, x6, x7, x8, x9⟩ : W.cell? ⟨w.heap.size, 0, none⟩ = some (.slice a1 n1 c1) ∧ W.cell? ⟨w.heap.size, 1, none⟩ = some (.bool o1) ∧ W.cell? ⟨w.heap.size, 2, none⟩ = some (.int .i64 ct1) ∧ W.cell? ⟨w.heap.size, 3, none⟩ = some (.int .i64 co1) ∧ W.cell? ⟨w.heap.size, 4, none⟩ = some (.int .i64 cp1) ∧ W.cell? ⟨w.heap.size, 5, none⟩ = some (.slice f1 p1 g1) ∧ W.cell? ⟨w.heap.size, 6, none⟩ = some (.int .i64 l1) ∧ W.cell? ⟨w.heap.size, 7, none⟩ = some (.int .i64 lt1) ∧ W.cell? ⟨w.heap.size, 8, none⟩ = some (.int .i64 la1) ∧ W.cell? ⟨w.heap.size, 9, none⟩ = some (.slice h1 q1 i1) := ⟨hSa.cell 0, hSa.cell 1, hSa.cell 2, hSa.cell 3, hSa.cell 4, hSa.cell 5, hSa.cell 6, hSa.cell 7, hSa.cell 8, hSa.cell 9⟩; obtain ⟨y0, y1, y2, y3, y4, y5, y6, y7, y8, y9⟩ : W.cell? ⟨w.heap.size + 1, 0, none⟩ = some (.slice a2 n2 c2) ∧ W.cell? ⟨w.heap.size + 1, 1, none⟩ = some (.bool o1) ∧ W.cell? ⟨w.heap.size + 1, 2, none⟩ = some (.int .i64 ct2) ∧ W.cell? ⟨w.heap.size + 1, 3, none⟩ = some (.int .i64 co2) ∧ W.cell? ⟨w.heap.size + 1, 4, none⟩ = some (.int .i64 cp2) ∧ W.cell? ⟨w.heap.size + 1, 5, none⟩ = some (.slice f2 p2 g2) ∧ W.cell? ⟨w.heap.size + 1, 6, none⟩ = some (.int .i64 l1) ∧ W.cell? ⟨w.heap.size + 1, 7, none⟩ = some (.int .i64 lt2) ∧ W.cell? ⟨w.heap.size + 1, 8, none⟩ = some (.int .i64 la2) ∧ W.cell? ⟨w.heap.size + 1, 9, none⟩ = some (.slice h2 q2 i2) := ⟨hSb.cell 0, hSb.cell 1, hSb.cell 2, hSb.cell 3, hSb.cell 4, hSb.cell 5, hSb.cell 6, hSb.cell 7, hSb.cell 8, hSb.cell 9⟩; clear hSa hSb; go_simp); first | done | with_reducible rfl)
    (try simp only [Act.put, List.setIfInBounds_toArray, List.set_cons_zero, List.set_cons_succ])
    refine wpAnyH_take (i := 2) (oi := ⟨some 9, _, _, _, _, _⟩) (v := ?_) rfl (by kernel_rfl) (by kernel_rfl) (by kernel_rfl) (fun _ _ _ h => h) (Or.inl ⟨by rfl, ?hy2⟩) hS0 ?re2
    case hy2 => ((intro W hSw; obtain ⟨hSa, hSb⟩ := hSw; obtain ⟨x0, x1, x2, x3, x4, x5, x6, x7, x8, x9⟩ : W.cell? ⟨w.heap.size, 0, none⟩ = some (.slice a1 n1 c1) ∧ W.cell? ⟨w.heap.size, 1, none⟩ = some (.bool o1) ∧ W.cell? ⟨w.heap.size, 2, none⟩ = some (.int .i64 ct1) ∧ W.cell? ⟨w.heap.size, 3, none⟩ = some (.int .i64 co1) ∧ W.cell? ⟨w.heap.size, 4, none⟩ = some (.int .i64 cp1) ∧ W.cell? ⟨w.heap.size, 5, none⟩ = some (.slice f1 p1 g1) ∧ W.cell? ⟨w.heap.size, 6, none⟩ = some (.int .i64 l1) ∧ W.cell? ⟨w.heap.size, 7, none⟩ = some (.int .i64 lt1) ∧ W.cell? ⟨w.heap.size, 8, none⟩ = some (.int .i64 la1) ∧ W.cell? ⟨w.heap.size, 9, none⟩ = some (.slice h1 q1 i1) := ⟨hSa.cell 0, hSa.cell 1, hSa.cell 2, hSa.cell 3, hSa.cell 4, hSa.cell 5, hSa.cell 6, hSa.cell 7, hSa.cell 8, hSa.cell 9⟩; obtain ⟨y0, y1, y2, y3, y4, y5, y6, y7, y8, y9⟩ : W.cell? ⟨w.heap.size + 1, 0, none⟩ = some (.slice a2 n2 c2) ∧ W.cell? ⟨w.heap.size + 1, 1, none⟩ = some (.bool o1) ∧ W.cell? ⟨w.heap.size + 1, 2, none⟩ = some (.int .i64 ct2) ∧ W.cell? ⟨w.heap.size + 1, 3, none⟩ = some (.int .i64 co2) ∧ W.cell? ⟨w.heap.size + 1, 4, none⟩ = some (.int .i64 cp2) ∧ W.cell? ⟨w.heap.size + 1, 5, none⟩ = some (.slice f2 p2 g2) ∧ W.cell? ⟨w.heap.size + 1, 6, none⟩ = some (.int .i64 l1) ∧ W.cell? ⟨w.heap.size + 1, 7, none⟩ = some (.int .i64 lt2) ∧ W.cell? ⟨w.heap.size + 1, 8, none⟩ = some (.int .i64 la2) ∧ W.cell? ⟨w.heap.size + 1, 9, none⟩ = some (.slice h2 q2 i2) := ⟨hSb.cell 0, hSb.cell 1, hSb.cell 2, hSb.cell 3, hSb.cell 4, hSb.cell 5, hSb.cell 6, hSb.cell 7, hSb.cell 8, hSb.cell 9⟩; clear hSa hSb; go_simp); first | done | with_reducible rfl)
    (try simp only [Act.put, List.setIfInBounds_toArray, List.set_cons_zero, List.set_cons_succ])
    refine wpAnyH_take (i := 1) (oi := ⟨some 8, _, _, _, _, _⟩) (v := ?_) rfl (by kernel_rfl) (by kernel_rfl) (by kernel_rfl) (fun _ _ _ h => h) (Or.inl ⟨by rfl, ?hy1⟩) hS0 ?re1
    case hy1 => ((intro W hSw; obtain ⟨hSa, hSb⟩ := hSw; obtain ⟨x0, x1, x2, x3, x4, x5, x6, x7, x8, x9⟩ : W.cell? ⟨w.heap.size, 0, none⟩ = some (.slice a1 n1 c1) ∧ W.cell? ⟨w.heap.size, 1, none⟩ = some (.bool o1) ∧ W.cell? ⟨w.heap.size, 2, none⟩ = some (.int .i64 ct1) ∧ W.cell? ⟨w.heap.size, 3, none⟩ = some (.int .i64 co1) ∧ W.cell? ⟨w.heap.size, 4, none⟩ = some (.int .i64 cp1) ∧ W.cell? ⟨w.heap.size, 5, none⟩ = some (.slice f1 p1 g1) ∧ W.cell? ⟨w.heap.size, 6, none⟩ = some (.int .i64 l1) ∧ W.cell? ⟨w.heap.size, 7, none⟩ = some (.int .i64 lt1) ∧ W.cell? ⟨w.heap.size, 8, none⟩ = some (.int .i64 la1) ∧ W.cell? ⟨w.heap.size, 9, none⟩ = some (.slice h1 q1 i1) := ⟨hSa.cell 0, hSa.cell 1, hSa.cell 2, hSa.cell 3, hSa.cell 4, hSa.cell 5, hSa.cell 6, hSa.cell 7, hSa.cell 8, hSa.cell 9⟩; obtain ⟨y0, y1, y2, y3, y4, y5, y6, y7, y8, y9⟩ : W.cell? ⟨w.heap.size + 1, 0, none⟩ = some (.slice a2 n2 c2) ∧ W.cell? ⟨w.heap.size + 1, 1, none⟩ = some (.bool o1) ∧ W.cell? ⟨w.heap.size + 1, 2, none⟩ = some (.int .i64 ct2) ∧ W.cell? ⟨w.heap.size + 1, 3, none⟩ = some (.int .i64 co2) ∧ W.cell? ⟨w.heap.size + 1, 4, none⟩ = some (.int .i64 cp2) ∧ W.cell? ⟨w.heap.size + 1, 5, none⟩ = some (.slice f2 p2 g2) ∧ W.cell? ⟨w.heap.size + 1, 6, none⟩ = some (.int .i64 l1) ∧ W.cell? ⟨w.heap.size + 1, 7, none⟩ = some (.int .i64 lt2) ∧ W.cell? ⟨w.heap.size + 1, 8, none⟩ = some (.int .i64 la2) ∧ W.cell? ⟨w.heap.size + 1, 9, none⟩ = some (.slice h2 q2 i2) := ⟨hSb.cell 0, hSb.cell 1, hSb.cell 2, hSb.cell 3, hSb.cell 4, hSb.cell 5, hSb.cell 6, hSb.cell 7, hSb.cell 8, hSb.cell 9⟩; clear hSa hSb; go_simp); first | done | with_reducible rfl)
    (try simp only [Act.put, List.setIfInBounds_toArray, List.set_cons_zero, List.set_cons_succ])
    refine wpAnyH_take (i := 3) (oi := ⟨some 10, _, _, _, _, _⟩) (v := ?_) rfl (by kernel_rfl) (by kernel_rfl) (by kernel_rfl) (fun _ _ _ h => h) (Or.inl ⟨by rfl, ?hy3⟩) hS0 ?re3
    case hy3 => ((intro W hSw; obtain ⟨hSa, hSb⟩ := hSw; obtain ⟨x0, x1, x2, x3, x4, x5, x6, x7, x8, x9⟩ : W.cell? ⟨w.heap.size, 0, none⟩ = some (.slice a1 n1 c1) ∧ W.cell? ⟨w.heap.size, 1, none⟩ = some (.bool o1) ∧ W.cell? ⟨w.heap.size, 2, none⟩ = some (.int .i64 ct1) ∧ W.cell? ⟨w.heap.size, 3, none⟩ = some (.int .i64 co1) ∧ W.cell? ⟨w.heap.size, 4, none⟩ = some (.int .i64 cp1) ∧ W.cell? ⟨w.heap.size, 5, none⟩ = some (.slice f1 p1 g1) ∧ W.cell? ⟨w.heap.size, 6, none⟩ = some (.int .i64 l1) ∧ W.cell? ⟨w.heap.size, 7, none⟩ = some (.int .i64 lt1) ∧ W.cell? ⟨w.heap.size, 8, none⟩ = some (.int .i64 la1) ∧ W.cell? ⟨w.heap.size, 9, none⟩ = some (.slice h1 q1 i1) := ⟨hSa.cell 0, hSa.cell 1, hSa.cell 2, hSa.cell 3, hSa.cell 4, hSa.cell 5, hSa.cell 6, hSa.cell 7, hSa.cell 8, hSa.cell 9⟩; obtain ⟨y0, y1, y2, y3, y4, y5, y6, y7, y8, y9⟩ : W.cell? ⟨w.heap.size + 1, 0, none⟩ = some (.slice a2 n2 c2) ∧ W.cell? ⟨w.heap.size + 1, 1, none⟩ = some (.bool o1) ∧ W.cell? ⟨w.heap.size + 1, 2, none⟩ = some (.int .i64 ct2) ∧ W.cell? ⟨w.heap.size + 1, 3, none⟩ = some (.int .i64 co2) ∧ W.cell? ⟨w.heap.size + 1, 4, none⟩ = some (.int .i64 cp2) ∧ W.cell? ⟨w.heap.size + 1, 5, none⟩ = some (.slice f2 p2 g2) ∧ W.cell? ⟨w.heap.size + 1, 6, none⟩ = some (.int .i64 l1) ∧ W.cell? ⟨w.heap.size + 1, 7, none⟩ = some (.int .i64 lt2) ∧ W.cell? ⟨w.heap.size + 1, 8, none⟩ = some (.int .i64 la2) ∧ W.cell? ⟨w.heap.size + 1, 9, none⟩ = some (.slice h2 q2 i2) := ⟨hSb.cell 0, hSb.cell 1, hSb.cell 2, hSb.cell 3, hSb.cell 4, hSb.cell 5, hSb.cell 6, hSb.cell 7, hSb.cell 8, hSb.cell 9⟩; clear hSa hSb; go_simp); first | done | with_reducible rfl)
    (try simp only [Act.put, List.setIfInBounds_toArray, List.set_cons_zero, List.set_cons_succ])
    refine wpAnyH_ready (rs := [4, 5]) (by kernel_rfl) (by simp) ?_
    refine AllReadyH.cons rfl (fun K hK => ?_) (AllReadyH.cons rfl (fun K hK => ?_) AllReadyH.nil)
    · go_simp
      refine hK.out _ _ (HK1.out _) (fun _ => ?_)
      clear hK K
      (try simp only [Act.put, List.setIfInBounds_toArray, List.set_cons_zero, List.set_cons_succ])
      refine wpAnyH_ready (rs := [5]) (by kernel_rfl) (by simp) ?_
      refine AllReadyH.cons rfl (fun K hK => ?_) AllReadyH.nil
      go_simp
      refine hK.out _ _ (HK2.out _ _) (fun _ => ?_)
      clear hK K
      (try simp only [Act.put, List.setIfInBounds_toArray, List.set_cons_zero, List.set_cons_succ])
      refine wpAnyH_ready (rs := [6]) (by kernel_rfl) (by simp) ?_
      refine AllReadyH.cons rfl (fun K hK => ?_) AllReadyH.nil
      go_simp
      refine hK.out _ _ (HK2.out _ _) (fun _ => ?_)
      clear hK K
      (try simp only [Act.put, List.setIfInBounds_toArray, List.set_cons_zero, List.set_cons_succ])
      refine wpAnyH_ready (rs := [7]) (by kernel_rfl) (by simp) ?_
      refine AllReadyH.cons rfl (fun K hK => ?_) AllReadyH.nil
      go_simp
      refine hK.out _ _ (HK2.out _ _) (fun _ => ?_)
      clear hK K
      (try simp only [Act.put, List.setIfInBounds_toArray, List.set_cons_zero, List.set_cons_succ])
      refine wpAnyH_done (by kernel_rfl) ?_ _
      refine NoPanic.normal ?_
      go_wp2_with fail
      go_meet
      exact ⟨_, _, rfl, rfl, (Bk.new W0 _ [_, _, _, _, _, _, _, _, _]).alloc _, Bk.newAt _ _ [_, _, _, _, _, _, _, _, _] (by simp), ((low_alloc _ _).alloc (by simp) _).drew⟩
    · go_simp
      refine hK.out _ _ (HK1.out _) (fun _ => ?_)
      clear hK K
      (try simp only [Act.put, List.setIfInBounds_toArray, List.set_cons_zero, List.set_cons_succ])
      refine wpAnyH_ready (rs := [4]) (by kernel_rfl) (by simp) ?_
      refine AllReadyH.cons rfl (fun K hK => ?_) AllReadyH.nil
      go_simp
      refine hK.out _ _ (HK2.out _ _) (fun _ => ?_)
      clear hK K
      (try simp only [Act.put, List.setIfInBounds_toArray, List.set_cons_zero, List.set_cons_succ])
      refine wpAnyH_ready (rs := [6]) (by kernel_rfl) (by simp) ?_
      refine AllReadyH.cons rfl (fun K hK => ?_) AllReadyH.nil
      go_simp
      refine hK.out _ _ (HK2.out _ _) (fun _ => ?_)
      clear hK K
      (try simp only [Act.put, List.setIfInBounds_toArray, List.set_cons_zero, List.set_cons_succ])
      refine wpAnyH_ready (rs := [7]) (by kernel_rfl) (by simp) ?_
      refine AllReadyH.cons rfl (fun K hK => ?_) AllReadyH.nil
      go_simp
      refine hK.out _ _ (HK2.out _ _) (fun _ => ?_)
      clear hK K
      (try simp only [Act.put, List.setIfInBounds_toArray, List.set_cons_zero, List.set_cons_succ])
      refine wpAnyH_done (by kernel_rfl) ?_ _
      refine NoPanic.normal ?_
      go_wp2_with fail
      go_meet
      exact ⟨_, _, rfl, rfl, Bk.newAt _ _ [_, _, _, _, _, _, _, _, _] (by simp), (Bk.new W0 _ [_, _, _, _, _, _, _, _, _]).alloc _, ((low_alloc _ _).alloc (by simp) _).drew⟩
  case rest =>
    obtain ⟨p, q, rfl, rfl, hp, hq, hb⟩ := hcut
    have hlow := stepAny HL.out hb
    have y0 := (HA.out.below hb HA.out.lt).cell 0
    have z0 := (HB0.out.below hb HB0.out.lt).cell 0
    simp only [List.getElem?_cons_zero] at y0 z0
    obtain ⟨e0, e1, e2, e3, e4, e5, e6, e7, e8⟩ : wc.cell? ⟨p, 0, none⟩ = some (.bool o1) ∧ wc.cell? ⟨p, 1, none⟩ = some (.int .i64 ct1) ∧ wc.cell? ⟨p, 2, none⟩ = some (.int .i64 co1) ∧ wc.cell? ⟨p, 3, none⟩ = some (.int .i64 cp1) ∧ wc.cell? ⟨p, 4, none⟩ = some (.slice f1 p1 g1) ∧ wc.cell? ⟨p, 5, none⟩ = some (.int .i64 l1) ∧ wc.cell? ⟨p, 6, none⟩ = some (.int .i64 lt1) ∧ wc.cell? ⟨p, 7, none⟩ = some (.int .i64 la1) ∧ wc.cell? ⟨p, 8, none⟩ = some (.slice h1 q1 i1) := ⟨hp.cell 0, hp.cell 1, hp.cell 2, hp.cell 3, hp.cell 4, hp.cell 5, hp.cell 6, hp.cell 7, hp.cell 8⟩
    obtain ⟨j0, j1, j2, j3, j4, j5, j6, j7, j8⟩ : wc.cell? ⟨q, 0, none⟩ = some (.bool o1) ∧ wc.cell? ⟨q, 1, none⟩ = some (.int .i64 ct2) ∧ wc.cell? ⟨q, 2, none⟩ = some (.int .i64 co2) ∧ wc.cell? ⟨q, 3, none⟩ = some (.int .i64 cp2) ∧ wc.cell? ⟨q, 4, none⟩ = some (.slice f2 p2 g2) ∧ wc.cell? ⟨q, 5, none⟩ = some (.int .i64 l1) ∧ wc.cell? ⟨q, 6, none⟩ = some (.int .i64 lt2) ∧ wc.cell? ⟨q, 7, none⟩ = some (.int .i64 la2) ∧ wc.cell? ⟨q, 8, none⟩ = some (.slice h2 q2 i2) := ⟨hq.cell 0, hq.cell 1, hq.cell 2, hq.cell 3, hq.cell 4, hq.cell 5, hq.cell 6, hq.cell 7, hq.cell 8⟩
    clear hb hp hq
    iterate 3 (first | go_values | go_skip | go_guarded | go_step | go_upon | go_back)
    simp only [List.append_eq, List.cons_append, List.nil_append]
    go_wp2_with (first | (go_at_call 42; (with_reducible refine (HE.out _ hlow).mono ?_); rintro e w3 ⟨rfl, rfl⟩; dsimp only))
    go_ret
    exact ⟨rfl, hlow⟩

set_option maxRecDepth 100000 in
set_option maxHeartbeats 8000000 in
theorem deq4 (o1 o2 : Bool) (ct1 co1 cp1 l1 lt1 la1 ct2 co2 cp2 l2 lt2 la2 : Int) (a1 f1 h1 a2 f2 h2 : Option Addr) (n1 c1 p1 g1 q1 i1 n2 c2 p2 g2 q2 i2 : Nat) (w : World) (r : Bool) (hne : (co1 == co2) = false)
    (HE : Hid (∀ W, Below w.heap.size w W → Calls Try.prog 42 #[.slice a1 n1 c1, .slice a2 n2 c2, .func (.func 43) #[] #[]] W fun e w' => e = .returned (.bool true) ∧ W = w')) :
    Calls Try.prog 19 #[.agg #[.slice a1 n1 c1, .bool o1, .int .i64 ct1, .int .i64 co1, .int .i64 cp1, .slice f1 p1 g1, .int .i64 l1, .int .i64 lt1, .int .i64 la1, .slice h1 q1 i1], .agg #[.slice a2 n2 c2, .bool o1, .int .i64 ct1, .int .i64 co2, .int .i64 cp2, .slice f2 p2 g2, .int .i64 l1, .int .i64 lt2, .int .i64 la2, .slice h2 q2 i2]] w fun e w' => e = .returned (.bool false) ∧ Below w.heap.size w w' := by
  obtain ⟨W0, hW0⟩ : ∃ W0, W0 = (w.alloc (.cells #[.slice a1 n1 c1, .bool o1, .int .i64 ct1, .int .i64 co1, .int .i64 cp1, .slice f1 p1 g1, .int .i64 l1, .int .i64 lt1, .int .i64 la1, .slice h1 q1 i1] 39 (0, 0))).alloc (.cells #[.slice a2 n2 c2, .bool o1, .int .i64 ct1, .int .i64 co2, .int .i64 cp2, .slice f2 p2 g2, .int .i64 l1, .int .i64 lt2, .int .i64 la2, .slice h2 q2 i2] 39 (0, 0)) := ⟨_, rfl⟩
  have hA : Bk W0 w.heap.size 39 [.slice a1 n1 c1, .bool o1, .int .i64 ct1, .int .i64 co1, .int .i64 cp1, .slice f1 p1 g1, .int .i64 l1, .int .i64 lt1, .int .i64 la1, .slice h1 q1 i1] := by rw [hW0]; exact (Bk.new w _ [_, _, _, _, _, _, _, _, _, _]).alloc _
  have hB : Bk W0 (w.heap.size + 1) 39 [.slice a2 n2 c2, .bool o1, .int .i64 ct1, .int .i64 co2, .int .i64 cp2, .slice f2 p2 g2, .int .i64 l1, .int .i64 lt2, .int .i64 la2, .slice h2 q2 i2] := by rw [hW0]; exact Bk.newAt _ _ [_, _, _, _, _, _, _, _, _, _] (by simp)
  have hL : Below w.heap.size w W0 := by rw [hW0]; exact (low_alloc _ _).alloc (by simp) _
  have hs0 : W0.heap.size = w.heap.size + 1 + 1 := by rw [hW0]; simp
  have HA := Lib.hid hA
  have HB0 := Lib.hid hB
  have HL := Lib.hid hL
  have HS0 := Lib.hid hs0
  clear hA hB hL hs0
  go_enter Try.func19, Try.ntmps19
  go_upto_region 1 with fail
  rw [← hW0]
  clear hW0
  go_cut [5, 6] (fun s5 s6 W' => ∃ p q, s5 = .pointer (some ⟨p, 0, none⟩) ∧ s6 = .pointer (some ⟨q, 0, none⟩) ∧ Bk W' p 37 [.bool o1, .int .i64 ct1, .int .i64 co1, .int .i64 cp1, .slice f1 p1 g1, .int .i64 l1, .int .i64 lt1, .int .i64 la1, .slice h1 q1 i1] ∧ Bk W' q 37 [.bool o1, .int .i64 ct1, .int .i64 co2, .int .i64 cp2, .slice f2 p2 g2, .int .i64 l1, .int .i64 lt2, .int .i64 la2, .slice h2 q2 i2] ∧ Below W0.heap.size W0 W')
  case first =>
    have hS0 : (fun w' => Bk w' w.heap.size 39 [.slice a1 n1 c1, .bool o1, .int .i64 ct1, .int .i64 co1, .int .i64 cp1, .slice f1 p1 g1, .int .i64 l1, .int .i64 lt1, .int .i64 la1, .slice h1 q1 i1] ∧ Bk w' (w.heap.size + 1) 39 [.slice a2 n2 c2, .bool o1, .int .i64 ct1, .int .i64 co2, .int .i64 cp2, .slice f2 p2 g2, .int .i64 l1, .int .i64 lt2, .int .i64 la2, .slice h2 q2 i2]) W0.drew := ⟨HA.out, HB0.out⟩
    have HK1 : Hid (∀ o, Bk (W0.alloc o).drew w.heap.size 39 [.slice a1 n1 c1, .bool o1, .int .i64 ct1, .int .i64 co1, .int .i64 cp1, .slice f1 p1 g1, .int .i64 l1, .int .i64 lt1, .int .i64 la1, .slice h1 q1 i1] ∧ Bk (W0.alloc o).drew (w.heap.size + 1) 39 [.slice a2 n2 c2, .bool o1, .int .i64 ct1, .int .i64 co2, .int .i64 cp2, .slice f2 p2 g2, .int .i64 l1, .int .i64 lt2, .int .i64 la2, .slice h2 q2 i2]) := fun o => ⟨HA.out.alloc o, HB0.out.alloc o⟩
    have HK2 : Hid (∀ o o', Bk ((W0.alloc o).alloc o').drew w.heap.size 39 [.slice a1 n1 c1, .bool o1, .int .i64 ct1, .int .i64 co1, .int .i64 cp1, .slice f1 p1 g1, .int .i64 l1, .int .i64 lt1, .int .i64 la1, .slice h1 q1 i1] ∧ Bk ((W0.alloc o).alloc o').drew (w.heap.size + 1) 39 [.slice a2 n2 c2, .bool o1, .int .i64 ct1, .int .i64 co2, .int .i64 cp2, .slice f2 p2 g2, .int .i64 l1, .int .i64 lt2, .int .i64 la2, .slice h2 q2 i2]) := fun o o' => ⟨(HA.out.alloc o).alloc o', (HB0.out.alloc o).alloc o'⟩
    refine wp_region_noPanic ?_
    refine wp_region_held_drew (S := fun w' => Bk w' w.heap.size 39 [.slice a1 n1 c1, .bool o1, .int .i64 ct1, .int .i64 co1, .int .i64 cp1, .slice f1 p1 g1, .int .i64 l1, .int .i64 lt1, .int .i64 la1, .slice h1 q1 i1] ∧ Bk w' (w.heap.size + 1) 39 [.slice a2 n2 c2, .bool o1, .int .i64 ct1, .int .i64 co2, .int .i64 cp2, .slice f2 p2 g2, .int .i64 l1, .int .i64 lt2, .int .i64 la2, .slice h2 q2 i2]) (by kernel_rfl) hS0 (fun _ => ?_)
    refine wpAnyH_take (i := 0) (oi := ⟨some 7, _, _, _, _, _⟩) (v := ?_) rfl (by kernel_rfl) (by kernel_rfl) (by kernel_rfl) (fun _ _ _ h => h) (Or.inl ⟨by rfl, ?hy0⟩) hS0 ?re0
    case hy0 => ((intro W hSw; obtain ⟨hSa, hSb⟩ := hSw; obtain ⟨x0, x1, x2, x3, x4, x5, x6, x7, x8, x9⟩ : W.cell? ⟨w.heap.size, 0, none⟩ = some (.slice a1 n1 c1) ∧ W.cell? ⟨w.heap.size, 1, none⟩ = some (.bool o1) ∧ W.cell? ⟨w.heap.size, 2, none⟩ = some (.int .i64 ct1) ∧ W.cell? ⟨w.heap.size, 3, none⟩ = some (.int .i64 co1) ∧ W.cell? ⟨w.heap.size, 4, none⟩ = some (.int .i64 cp1) ∧ W.cell? ⟨w.heap.size, 5, none⟩ = some (.slice f1 p1 g1) ∧ W.cell? ⟨w.heap.size, 6, none⟩ = some (.int .i64 l1) ∧ W.cell? ⟨w.heap.size, 7, none⟩ = some (.int .i64 lt1) ∧ W.cell? ⟨w.heap.size, 8, none⟩ = some (.int .i64 la1) ∧ W.cell? ⟨w.heap.size, 9, none⟩ = some (.slice h1 q1 i1) := ⟨hSa.cell 0, hSa.cell 1, hSa.cell 2, hSa.cell 3, hSa.cell 4, hSa.cell 5, hSa.cell 6, hSa.cell 7, hSa.cell 8, hSa.cell 9⟩; obtain ⟨y0, y1, y2, y3, y4, y5, y6, y7, y8, y9⟩ : W.cell? ⟨w.heap.size + 1, 0, none⟩ = some (.slice a2 n2 c2) ∧ W.cell? ⟨w.heap.size + 1, 1, none⟩ = some (.bool o1) ∧ W.cell? ⟨w.heap.size + 1, 2, none⟩ = some (.int .i64 ct1) ∧ W.cell? ⟨w.heap.size + 1, 3, none⟩ = some (.int .i64 co2) ∧ W.cell? ⟨w.heap.size + 1, 4, none⟩ = some (.int .i64 cp2) ∧ W.cell? ⟨w.heap.size + 1, 5, none⟩ = some (.slice f2 p2 g2) ∧ W.cell? ⟨w.heap.size + 1, 6, none⟩ = some (.int .i64 l1) ∧ W.cell? ⟨w.heap.size + 1, 7, none⟩ = some (.int .i64 lt2) ∧ W.cell? ⟨w.heap.size + 1, 8, none⟩ = some (.int .i64 la2) ∧ W.cell? ⟨w.heap.size + 1, 9, none⟩ = some (.slice h2 q2 i2) := ⟨hSb.cell 0, hSb.cell 1, hSb.cell 2, hSb.cell 3, hSb.cell 4, hSb.cell 5, hSb.cell 6, hSb.cell 7, hSb.cell 8, hSb.cell 9⟩; clear hSa hSb; go_simp); first | done | with_reducible rfl)
    (try simp only [Act.put, List.setIfInBounds_toArray, List.set_cons_zero, List.set_cons_succ])
    refine wpAnyH_take (i := 2) (oi := ⟨some 9, _, _, _, _, _⟩) (v := ?_) rfl (by kernel_rfl) (by kernel_rfl) (by kernel_rfl) (fun _ _ _ h => h) (Or.inl ⟨by rfl, ?hy2⟩) hS0 ?re2
    case hy2 => ((intro W hSw; obtain ⟨hSa, hSb⟩ := hSw; obtain ⟨x0, x1, x2, x3, x4, x5, x6, x7, x8, x9⟩ : W.cell? ⟨w.heap.size, 0, none⟩ = some (.slice a1 n1 c1) ∧ W.cell? ⟨w.heap.size, 1, none⟩ = some (.bool o1) ∧ W.cell? ⟨w.heap.size, 2, none⟩ = some (.int .i64 ct1) ∧ W.cell? ⟨w.heap.size, 3, none⟩ = some (.int .i64 co1) ∧ W.cell? ⟨w.heap.size, 4, none⟩ = some (.int .i64 cp1) ∧ W.cell? ⟨w.heap.size, 5, none⟩ = some (.slice f1 p1 g1) ∧ W.cell? ⟨w.heap.size, 6, none⟩ = some (.int .i64 l1) ∧ W.cell? ⟨w.heap.size, 7, none⟩ = some (.int .i64 lt1) ∧ W.cell? ⟨w.heap.size, 8, none⟩ = some (.int .i64 la1) ∧ W.cell? ⟨w.heap.size, 9, none⟩ = some (.slice h1 q1 i1) := ⟨hSa.cell 0, hSa.cell 1, hSa.cell 2, hSa.cell 3, hSa.cell 4, hSa.cell 5, hSa.cell 6, hSa.cell 7, hSa.cell 8, hSa.cell 9⟩; obtain ⟨y0, y1, y2, y3, y4, y5, y6, y7, y8, y9⟩ : W.cell? ⟨w.heap.size + 1, 0, none⟩ = some (.slice a2 n2 c2) ∧ W.cell? ⟨w.heap.size + 1, 1, none⟩ = some (.bool o1) ∧ W.cell? ⟨w.heap.size + 1, 2, none⟩ = some (.int .i64 ct1) ∧ W.cell? ⟨w.heap.size + 1, 3, none⟩ = some (.int .i64 co2) ∧ W.cell? ⟨w.heap.size + 1, 4, none⟩ = some (.int .i64 cp2) ∧ W.cell? ⟨w.heap.size + 1, 5, none⟩ = some (.slice f2 p2 g2) ∧ W.cell? ⟨w.heap.size + 1, 6, none⟩ = some (.int .i64 l1) ∧ W.cell? ⟨w.heap.size + 1, 7, none⟩ = some (.int .i64 lt2) ∧ W.cell? ⟨w.heap.size + 1, 8, none⟩ = some (.int .i64 la2) ∧ W.cell? ⟨w.heap.size + 1, 9, none⟩ = some (.slice h2 q2 i2) := ⟨hSb.cell 0, hSb.cell 1, hSb.cell 2, hSb.cell 3, hSb.cell 4, hSb.cell 5, hSb.cell 6, hSb.cell 7, hSb.cell 8, hSb.cell 9⟩; clear hSa hSb; go_simp); first | done | with_reducible rfl)
    (try simp only [Act.put, List.setIfInBounds_toArray, List.set_cons_zero, List.set_cons_succ])
    refine wpAnyH_take (i := 1) (oi := ⟨some 8, _, _, _, _, _⟩) (v := ?_) rfl (by kernel_rfl) (by kernel_rfl) (by kernel_rfl) (fun _ _ _ h => h) (Or.inl ⟨by rfl, ?hy1⟩) hS0 ?re1
    case hy1 => ((intro W hSw; obtain ⟨hSa, hSb⟩ := hSw; obtain ⟨x0, x1, x2, x3, x4, x5, x6, x7, x8, x9⟩ : W.cell? ⟨w.heap.size, 0, none⟩ = some (.slice a1 n1 c1) ∧ W.cell? ⟨w.heap.size, 1, none⟩ = some (.bool o1) ∧ W.cell? ⟨w.heap.size, 2, none⟩ = some (.int .i64 ct1) ∧ W.cell? ⟨w.heap.size, 3, none⟩ = some (.int .i64 co1) ∧ W.cell? ⟨w.heap.size, 4, none⟩ = some (.int .i64 cp1) ∧ W.cell? ⟨w.heap.size, 5, none⟩ = some (.slice f1 p1 g1) ∧ W.cell? ⟨w.heap.size, 6, none⟩ = some (.int .i64 l1) ∧ W.cell? ⟨w.heap.size, 7, none⟩ = some (.int .i64 lt1) ∧ W.cell? ⟨w.heap.size, 8, none⟩ = some (.int .i64 la1) ∧ W.cell? ⟨w.heap.size, 9, none⟩ = some (.slice h1 q1 i1) := ⟨hSa.cell 0, hSa.cell 1, hSa.cell 2, hSa.cell 3, hSa.cell 4, hSa.cell 5, hSa.cell 6, hSa.cell 7, hSa.cell 8, hSa.cell 9⟩; obtain ⟨y0, y1, y2, y3, y4, y5, y6, y7, y8, y9⟩ : W.cell? ⟨w.heap.size + 1, 0, none⟩ = some (.slice a2 n2 c2) ∧ W.cell? ⟨w.heap.size + 1, 1, none⟩ = some (.bool o1) ∧ W.cell? ⟨w.heap.size + 1, 2, none⟩ = some (.int .i64 ct1) ∧ W.cell? ⟨w.heap.size + 1, 3, none⟩ = some (.int .i64 co2) ∧ W.cell? ⟨w.heap.size + 1, 4, none⟩ = some (.int .i64 cp2) ∧ W.cell? ⟨w.heap.size + 1, 5, none⟩ = some (.slice f2 p2 g2) ∧ W.cell? ⟨w.heap.size + 1, 6, none⟩ = some (.int .i64 l1) ∧ W.cell? ⟨w.heap.size + 1, 7, none⟩ = some (.int .i64 lt2) ∧ W.cell? ⟨w.heap.size + 1, 8, none⟩ = some (.int .i64 la2) ∧ W.cell? ⟨w.heap.size + 1, 9, none⟩ = some (.slice h2 q2 i2) := ⟨hSb.cell 0, hSb.cell 1, hSb.cell 2, hSb.cell 3, hSb.cell 4, hSb.cell 5, hSb.cell 6, hSb.cell 7, hSb.cell 8, hSb.cell 9⟩; clear hSa hSb; go_simp); first | done | with_reducible rfl)
    (try simp only [Act.put, List.setIfInBounds_toArray, List.set_cons_zero, List.set_cons_succ])
    refine wpAnyH_take (i := 3) (oi := ⟨some 10, _, _, _, _, _⟩) (v := ?_) rfl (by kernel_rfl) (by kernel_rfl) (by kernel_rfl) (fun _ _ _ h => h) (Or.inl ⟨by rfl, ?hy3⟩) hS0 ?re3
    case hy3 => ((intro W hSw; obtain ⟨hSa, hSb⟩ := hSw; obtain ⟨x0, x1, x2, x3, x4, x5, x6, x7, x8, x9⟩ : W.cell? ⟨w.heap.size, 0, none⟩ = some (.slice a1 n1 c1) ∧ W.cell? ⟨w.heap.size, 1, none⟩ = some (.bool o1) ∧ W.cell? ⟨w.heap.size, 2, none⟩ = some (.int .i64 ct1) ∧ W.cell? ⟨w.heap.size, 3, none⟩ = some (.int .i64 co1) ∧ W.cell? ⟨w.heap.size, 4, none⟩ = some (.int .i64 cp1) ∧ W.cell? ⟨w.heap.size, 5, none⟩ = some (.slice f1 p1 g1) ∧ W.cell? ⟨w.heap.size, 6, none⟩ = some (.int .i64 l1) ∧ W.cell? ⟨w.heap.size, 7, none⟩ = some (.int .i64 lt1) ∧ W.cell? ⟨w.heap.size, 8, none⟩ = some (.int .i64 la1) ∧ W.cell? ⟨w.heap.size, 9, none⟩ = some (.slice h1 q1 i1) := ⟨hSa.cell 0, hSa.cell 1, hSa.cell 2, hSa.cell 3, hSa.cell 4, hSa.cell 5, hSa.cell 6, hSa.cell 7, hSa.cell 8, hSa.cell 9⟩; obtain ⟨y0, y1, y2, y3, y4, y5, y6, y7, y8, y9⟩ : W.cell? ⟨w.heap.size + 1, 0, none⟩ = some (.slice a2 n2 c2) ∧ W.cell? ⟨w.heap.size + 1, 1, none⟩ = some (.bool o1) ∧ W.cell? ⟨w.heap.size + 1, 2, none⟩ = some (.int .i64 ct1) ∧ W.cell? ⟨w.heap.size + 1, 3, none⟩ = some (.int .i64 co2) ∧ W.cell? ⟨w.heap.size + 1, 4, none⟩ = some (.int .i64 cp2) ∧ W.cell? ⟨w.heap.size + 1, 5, none⟩ = some (.slice f2 p2 g2) ∧ W.cell? ⟨w.heap.size + 1, 6, none⟩ = some (.int .i64 l1) ∧ W.cell? ⟨w.heap.size + 1, 7, none⟩ = some (.int .i64 lt2) ∧ W.cell? ⟨w.heap.size + 1, 8, none⟩ = some (.int .i64 la2) ∧ W.cell? ⟨w.heap.size + 1, 9, none⟩ = some (.slice h2 q2 i2) := ⟨hSb.cell 0, hSb.cell 1, hSb.cell 2, hSb.cell 3, hSb.cell 4, hSb.cell 5, hSb.cell 6, hSb.cell 7, hSb.cell 8, hSb.cell 9⟩; clear hSa hSb; go_simp); first | done | with_reducible rfl)
    (try simp only [Act.put, List.setIfInBounds_toArray, List.set_cons_zero, List.set_cons_succ])
    refine wpAnyH_ready (rs := [4, 5]) (by kernel_rfl) (by simp) ?_
    refine AllReadyH.cons rfl (fun K hK => ?_) (AllReadyH.cons rfl (fun K hK => ?_) AllReadyH.nil)
    · go_simp
      refine hK.out _ _ (HK1.out _) (fun _ => ?_)
      clear hK K
      (try simp only [Act.put, List.setIfInBounds_toArray, List.set_cons_zero, List.set_cons_succ])
      refine wpAnyH_ready (rs := [5]) (by kernel_rfl) (by simp) ?_
      refine AllReadyH.cons rfl (fun K hK => ?_) AllReadyH.nil
      go_simp
      refine hK.out _ _ (HK2.out _ _) (fun _ => ?_)
      clear hK K
      (try simp only [Act.put, List.setIfInBounds_toArray, List.set_cons_zero, List.set_cons_succ])
      refine wpAnyH_ready (rs := [6]) (by kernel_rfl) (by simp) ?_
      refine AllReadyH.cons rfl (fun K hK => ?_) AllReadyH.nil
      go_simp
      refine hK.out _ _ (HK2.out _ _) (fun _ => ?_)
      clear hK K
      (try simp only [Act.put, List.setIfInBounds_toArray, List.set_cons_zero, List.set_cons_succ])
      refine wpAnyH_ready (rs := [7]) (by kernel_rfl) (by simp) ?_
      refine AllReadyH.cons rfl (fun K hK => ?_) AllReadyH.nil
      go_simp
      refine hK.out _ _ (HK2.out _ _) (fun _ => ?_)
      clear hK K
      (try simp only [Act.put, List.setIfInBounds_toArray, List.set_cons_zero, List.set_cons_succ])
      refine wpAnyH_done (by kernel_rfl) ?_ _
      refine NoPanic.normal ?_
      go_wp2_with fail
      go_meet
      exact ⟨_, _, rfl, rfl, (Bk.new W0 _ [_, _, _, _, _, _, _, _, _]).alloc _, Bk.newAt _ _ [_, _, _, _, _, _, _, _, _] (by simp), ((low_alloc _ _).alloc (by simp) _).drew⟩
    · go_simp
      refine hK.out _ _ (HK1.out _) (fun _ => ?_)
      clear hK K
      (try simp only [Act.put, List.setIfInBounds_toArray, List.set_cons_zero, List.set_cons_succ])
      refine wpAnyH_ready (rs := [4]) (by kernel_rfl) (by simp) ?_
      refine AllReadyH.cons rfl (fun K hK => ?_) AllReadyH.nil
      go_simp
      refine hK.out _ _ (HK2.out _ _) (fun _ => ?_)
      clear hK K
      (try simp only [Act.put, List.setIfInBounds_toArray, List.set_cons_zero, List.set_cons_succ])
      refine wpAnyH_ready (rs := [6]) (by kernel_rfl) (by simp) ?_
      refine AllReadyH.cons rfl (fun K hK => ?_) AllReadyH.nil
      go_simp
      refine hK.out _ _ (HK2.out _ _) (fun _ => ?_)
      clear hK K
      (try simp only [Act.put, List.setIfInBounds_toArray, List.set_cons_zero, List.set_cons_succ])
      refine wpAnyH_ready (rs := [7]) (by kernel_rfl) (by simp) ?_
      refine AllReadyH.cons rfl (fun K hK => ?_) AllReadyH.nil
      go_simp
      refine hK.out _ _ (HK2.out _ _) (fun _ => ?_)
      clear hK K
      (try simp only [Act.put, List.setIfInBounds_toArray, List.set_cons_zero, List.set_cons_succ])
      refine wpAnyH_done (by kernel_rfl) ?_ _
      refine NoPanic.normal ?_
      go_wp2_with fail
      go_meet
      exact ⟨_, _, rfl, rfl, Bk.newAt _ _ [_, _, _, _, _, _, _, _, _] (by simp), (Bk.new W0 _ [_, _, _, _, _, _, _, _, _]).alloc _, ((low_alloc _ _).alloc (by simp) _).drew⟩
  case rest =>
    obtain ⟨p, q, rfl, rfl, hp, hq, hb⟩ := hcut
    have hlow := stepAny HL.out hb
    have y0 := (HA.out.below hb HA.out.lt).cell 0
    have z0 := (HB0.out.below hb HB0.out.lt).cell 0
    simp only [List.getElem?_cons_zero] at y0 z0
    obtain ⟨e0, e1, e2, e3, e4, e5, e6, e7, e8⟩ : wc.cell? ⟨p, 0, none⟩ = some (.bool o1) ∧ wc.cell? ⟨p, 1, none⟩ = some (.int .i64 ct1) ∧ wc.cell? ⟨p, 2, none⟩ = some (.int .i64 co1) ∧ wc.cell? ⟨p, 3, none⟩ = some (.int .i64 cp1) ∧ wc.cell? ⟨p, 4, none⟩ = some (.slice f1 p1 g1) ∧ wc.cell? ⟨p, 5, none⟩ = some (.int .i64 l1) ∧ wc.cell? ⟨p, 6, none⟩ = some (.int .i64 lt1) ∧ wc.cell? ⟨p, 7, none⟩ = some (.int .i64 la1) ∧ wc.cell? ⟨p, 8, none⟩ = some (.slice h1 q1 i1) := ⟨hp.cell 0, hp.cell 1, hp.cell 2, hp.cell 3, hp.cell 4, hp.cell 5, hp.cell 6, hp.cell 7, hp.cell 8⟩
    obtain ⟨j0, j1, j2, j3, j4, j5, j6, j7, j8⟩ : wc.cell? ⟨q, 0, none⟩ = some (.bool o1) ∧ wc.cell? ⟨q, 1, none⟩ = some (.int .i64 ct1) ∧ wc.cell? ⟨q, 2, none⟩ = some (.int .i64 co2) ∧ wc.cell? ⟨q, 3, none⟩ = some (.int .i64 cp2) ∧ wc.cell? ⟨q, 4, none⟩ = some (.slice f2 p2 g2) ∧ wc.cell? ⟨q, 5, none⟩ = some (.int .i64 l1) ∧ wc.cell? ⟨q, 6, none⟩ = some (.int .i64 lt2) ∧ wc.cell? ⟨q, 7, none⟩ = some (.int .i64 la2) ∧ wc.cell? ⟨q, 8, none⟩ = some (.slice h2 q2 i2) := ⟨hq.cell 0, hq.cell 1, hq.cell 2, hq.cell 3, hq.cell 4, hq.cell 5, hq.cell 6, hq.cell 7, hq.cell 8⟩
    clear hb hp hq
    iterate 3 (first | go_values | go_skip | go_guarded | go_step | go_upon | go_back)
    simp only [List.append_eq, List.cons_append, List.nil_append]
    go_wp2_with (first | (go_at_call 42; (with_reducible refine (HE.out _ hlow).mono ?_); rintro e w3 ⟨rfl, rfl⟩; dsimp only))
    go_ret
    exact ⟨rfl, hlow⟩

set_option maxRecDepth 100000 in
set_option maxHeartbeats 8000000 in
theorem deq5 (o1 o2 : Bool) (ct1 co1 cp1 l1 lt1 la1 ct2 co2 cp2 l2 lt2 la2 : Int) (a1 f1 h1 a2 f2 h2 : Option Addr) (n1 c1 p1 g1 q1 i1 n2 c2 p2 g2 q2 i2 : Nat) (w : World) (r : Bool) (hne : (cp1 == cp2) = false)
    (HE : Hid (∀ W, Below w.heap.size w W → Calls Try.prog 42 #[.slice a1 n1 c1, .slice a2 n2 c2, .func (.func 43) #[] #[]] W fun e w' => e = .returned (.bool true) ∧ W = w')) :
    Calls Try.prog 19 #[.agg #[.slice a1 n1 c1, .bool o1, .int .i64 ct1, .int .i64 co1, .int .i64 cp1, .slice f1 p1 g1, .int .i64 l1, .int .i64 lt1, .int .i64 la1, .slice h1 q1 i1], .agg #[.slice a2 n2 c2, .bool o1, .int .i64 ct1, .int .i64 co1, .int .i64 cp2, .slice f2 p2 g2, .int .i64 l1, .int .i64 lt2, .int .i64 la2, .slice h2 q2 i2]] w fun e w' => e = .returned (.bool false) ∧ Below w.heap.size w w' := by
  obtain ⟨W0, hW0⟩ : ∃ W0, W0 = (w.alloc (.cells #[.slice a1 n1 c1, .bool o1, .int .i64 ct1, .int .i64 co1, .int .i64 cp1, .slice f1 p1 g1, .int .i64 l1, .int .i64 lt1, .int .i64 la1, .slice h1 q1 i1] 39 (0, 0))).alloc (.cells #[.slice a2 n2 c2, .bool o1, .int .i64 ct1, .int .i64 co1, .int .i64 cp2, .slice f2 p2 g2, .int .i64 l1, .int .i64 lt2, .int .i64 la2, .slice h2 q2 i2] 39 (0, 0)) := ⟨_, rfl⟩
  have hA : Bk W0 w.heap.size 39 [.slice a1 n1 c1, .bool o1, .int .i64 ct1, .int .i64 co1, .int .i64 cp1, .slice f1 p1 g1, .int .i64 l1, .int .i64 lt1, .int .i64 la1, .slice h1 q1 i1] := by rw [hW0]; exact (Bk.new w _ [_, _, _, _, _, _, _, _, _, _]).alloc _
  have hB : Bk W0 (w.heap.size + 1) 39 [.slice a2 n2 c2, .bool o1, .int .i64 ct1, .int .i64 co1, .int .i64 cp2, .slice f2 p2 g2, .int .i64 l1, .int .i64 lt2, .int .i64 la2, .slice h2 q2 i2] := by rw [hW0]; exact Bk.newAt _ _ [_, _, _, _, _, _, _, _, _, _] (by simp)
  have hL : Below w.heap.size w W0 := by rw [hW0]; exact (low_alloc _ _).alloc (by simp) _
  have hs0 : W0.heap.size = w.heap.size + 1 + 1 := by rw [hW0]; simp
  have HA := Lib.hid hA
  have HB0 := Lib.hid hB
  have HL := Lib.hid hL
  have HS0 := Lib.hid hs0
  clear hA hB hL hs0
  go_enter Try.func19, Try.ntmps19
  go_upto_region 1 with fail
  rw [← hW0]
  clear hW0
  go_cut [5, 6] (fun s5 s6 W' => ∃ p q, s5 = .pointer (some ⟨p, 0, none⟩) ∧ s6 = .pointer (some ⟨q, 0, none⟩) ∧ Bk W' p 37 [.bool o1, .int .i64 ct1, .int .i64 co1, .int .i64 cp1, .slice f1 p1 g1, .int .i64 l1, .int .i64 lt1, .int .i64 la1, .slice h1 q1 i1] ∧ Bk W' q 37 [.bool o1, .int .i64 ct1, .int .i64 co1, .int .i64 cp2, .slice f2 p2 g2, .int .i64 l1, .int .i64 lt2, .int .i64 la2, .slice h2 q2 i2] ∧ Below W0.heap.size W0 W')
  case first =>
    have hS0 : (fun w' => Bk w' w.heap.size 39 [.slice a1 n1 c1, .bool o1, .int .i64 ct1, .int .i64 co1, .int .i64 cp1, .slice f1 p1 g1, .int .i64 l1, .int .i64 lt1, .int .i64 la1, .slice h1 q1 i1] ∧ Bk w' (w.heap.size + 1) 39 [.slice a2 n2 c2, .bool o1, .int .i64 ct1, .int .i64 co1, .int .i64 cp2, .slice f2 p2 g2, .int .i64 l1, .int .i64 lt2, .int .i64 la2, .slice h2 q2 i2]) W0.drew := ⟨HA.out, HB0.out⟩
    have HK1 : Hid (∀ o, Bk (W0.alloc o).drew w.heap.size 39 [.slice a1 n1 c1, .bool o1, .int .i64 ct1, .int .i64 co1, .int .i64 cp1, .slice f1 p1 g1, .int .i64 l1, .int .i64 lt1, .int .i64 la1, .slice h1 q1 i1] ∧ Bk (W0.alloc o).drew (w.heap.size + 1) 39 [.slice a2 n2 c2, .bool o1, .int .i64 ct1, .int .i64 co1, .int .i64 cp2, .slice f2 p2 g2, .int .i64 l1, .int .i64 lt2, .int .i64 la2, .slice h2 q2 i2]) := fun o => ⟨HA.out.alloc o, HB0.out.alloc o⟩
    have HK2 : Hid (∀ o o', Bk ((W0.alloc o).alloc o').drew w.heap.size 39 [.slice a1 n1 c1, .bool o1, .int .i64 ct1, .int .i64 co1, .int .i64 cp1, .slice f1 p1 g1, .int .i64 l1, .int .i64 lt1, .int .i64 la1, .slice h1 q1 i1] ∧ Bk ((W0.alloc o).alloc o').drew (w.heap.size + 1) 39 [.slice a2 n2 c2, .bool o1, .int .i64 ct1, .int .i64 co1, .int .i64 cp2, .slice f2 p2 g2, .int .i64 l1, .int .i64 lt2, .int .i64 la2, .slice h2 q2 i2]) := fun o o' => ⟨(HA.out.alloc o).alloc o', (HB0.out.alloc o).alloc o'⟩
    refine wp_region_noPanic ?_
    refine wp_region_held_drew (S := fun w' => Bk w' w.heap.size 39 [.slice a1 n1 c1, .bool o1, .int .i64 ct1, .int .i64 co1, .int .i64 cp1, .slice f1 p1 g1, .int .i64 l1, .int .i64 lt1, .int .i64 la1, .slice h1 q1 i1] ∧ Bk w' (w.heap.size + 1) 39 [.slice a2 n2 c2, .bool o1, .int .i64 ct1, .int .i64 co1, .int .i64 cp2, .slice f2 p2 g2, .int .i64 l1, .int .i64 lt2, .int .i64 la2, .slice h2 q2 i2]) (by kernel_rfl) hS0 (fun _ => ?_)
    refine wpAnyH_take (i := 0) (oi := ⟨some 7, _, _, _, _, _⟩) (v := ?_) rfl (by kernel_rfl) (by kernel_rfl) (by kernel_rfl) (fun _ _ _ h => h) (Or.inl ⟨by rfl, ?hy0⟩) hS0 ?re0
    case hy0 => ((intro W hSw; obtain ⟨hSa, hSb⟩ := hSw; obtain ⟨x0, x1, x2, x3, x4, x5, x6, x7, x8, x9⟩ : W.cell? ⟨w.heap.size, 0, none⟩ = some (.slice a1 n1 c1) ∧ W.cell? ⟨w.heap.size, 1, none⟩ = some (.bool o1) ∧ W.cell? ⟨w.heap.size, 2, none⟩ = some (.int .i64 ct1) ∧ W.cell? ⟨w.heap.size, 3, none⟩ = some (.int .i64 co1) ∧ W.cell? ⟨w.heap.size, 4, none⟩ = some (.int .i64 cp1) ∧ W.cell? ⟨w.heap.size, 5, none⟩ = some (.slice f1 p1 g1) ∧ W.cell? ⟨w.heap.size, 6, none⟩ = some (.int .i64 l1) ∧ W.cell? ⟨w.heap.size, 7, none⟩ = some (.int .i64 lt1) ∧ W.cell? ⟨w.heap.size, 8, none⟩ = some (.int .i64 la1) ∧ W.cell? ⟨w.heap.size, 9, none⟩ = some (.slice h1 q1 i1) := ⟨hSa.cell 0, hSa.cell 1, hSa.cell 2, hSa.cell 3, hSa.cell 4, hSa.cell 5, hSa.cell 6, hSa.cell 7, hSa.cell 8, hSa.cell 9⟩; obtain ⟨y0, y1, y2, y3, y4, y5, y6, y7, y8, y9⟩ : W.cell? ⟨w.heap.size + 1, 0, none⟩ = some (.slice a2 n2 c2) ∧ W.cell? ⟨w.heap.size + 1, 1, none⟩ = some (.bool o1) ∧ W.cell? ⟨w.heap.size + 1, 2, none⟩ = some (.int .i64 ct1) ∧ W.cell? ⟨w.heap.size + 1, 3, none⟩ = some (.int .i64 co1) ∧ W.cell? ⟨w.heap.size + 1, 4, none⟩ = some (.int .i64 cp2) ∧ W.cell? ⟨w.heap.size + 1, 5, none⟩ = some (.slice f2 p2 g2) ∧ W.cell? ⟨w.heap.size + 1, 6, none⟩ = some (.int .i64 l1) ∧ W.cell? ⟨w.heap.size + 1, 7, none⟩ = some (.int .i64 lt2) ∧ W.cell? ⟨w.heap.size + 1, 8, none⟩ = some (.int .i64 la2) ∧ W.cell? ⟨w.heap.size + 1, 9, none⟩ = some (.slice h2 q2 i2) := ⟨hSb.cell 0, hSb.cell 1, hSb.cell 2, hSb.cell 3, hSb.cell 4, hSb.cell 5, hSb.cell 6, hSb.cell 7, hSb.cell 8, hSb.cell 9⟩; clear hSa hSb; go_simp); first | done | with_reducible rfl)
    (try simp only [Act.put, List.setIfInBounds_toArray, List.set_cons_zero, List.set_cons_succ])
    refine wpAnyH_take (i := 2) (oi := ⟨some 9, _, _, _, _, _⟩) (v := ?_) rfl (by kernel_rfl) (by kernel_rfl) (by kernel_rfl) (fun _ _ _ h => h) (Or.inl ⟨by rfl, ?hy2⟩) hS0 ?re2
    case hy2 => ((intro W hSw; obtain ⟨hSa, hSb⟩ := hSw; obtain ⟨x0, x1, x2, x3, x4, x5, x6, x7, x8, x9⟩ : W.cell? ⟨w.heap.size, 0, none⟩ = some (.slice a1 n1 c1) ∧ W.cell? ⟨w.heap.size, 1, none⟩ = some (.bool o1) ∧ W.cell? ⟨w.heap.size, 2, none⟩ = some (.int .i64 ct1) ∧ W.cell? ⟨w.heap.size, 3, none⟩ = some (.int .i64 co1) ∧ W.cell? ⟨w.heap.size, 4, none⟩ = some (.int .i64 cp1) ∧ W.cell? ⟨w.heap.size, 5, none⟩ = some (.slice f1 p1 g1) ∧ W.cell? ⟨w.heap.size, 6, none⟩ = some (.int .i64 l1) ∧ W.cell? ⟨w.heap.size, 7, none⟩ = some (.int .i64 lt1) ∧ W.cell? ⟨w.heap.size, 8, none⟩ = some (.int .i64 la1) ∧ W.cell? ⟨w.heap.size, 9, none⟩ = some (.slice h1 q1 i1) := ⟨hSa.cell 0, hSa.cell 1, hSa.cell 2, hSa.cell 3, hSa.cell 4, hSa.cell 5, hSa.cell 6, hSa.cell 7, hSa.cell 8, hSa.cell 9⟩; obtain ⟨y0, y1, y2, y3, y4, y5, y6, y7, y8, y9⟩ : W.cell? ⟨w.heap.size + 1, 0, none⟩ = some (.slice a2 n2 c2) ∧ W.cell? ⟨w.heap.size + 1, 1, none⟩ = some (.bool o1) ∧ W.cell? ⟨w.heap.size + 1, 2, none⟩ = some (.int .i64 ct1) ∧ W.cell? ⟨w.heap.size + 1, 3, none⟩ = some (.int .i64 co1) ∧ W.cell? ⟨w.heap.size + 1, 4, none⟩ = some (.int .i64 cp2) ∧ W.cell? ⟨w.heap.size + 1, 5, none⟩ = some (.slice f2 p2 g2) ∧ W.cell? ⟨w.heap.size + 1, 6, none⟩ = some (.int .i64 l1) ∧ W.cell? ⟨w.heap.size + 1, 7, none⟩ = some (.int .i64 lt2) ∧ W.cell? ⟨w.heap.size + 1, 8, none⟩ = some (.int .i64 la2) ∧ W.cell? ⟨w.heap.size + 1, 9, none⟩ = some (.slice h2 q2 i2) := ⟨hSb.cell 0, hSb.cell 1, hSb.cell 2, hSb.cell 3, hSb.cell 4, hSb.cell 5, hSb.cell 6, hSb.cell 7, hSb.cell 8, hSb.cell 9⟩; clear hSa hSb; go_simp); first | done | with_reducible rfl)
    (try simp only [Act.put, List.setIfInBounds_toArray, List.set_cons_zero, List.set_cons_succ])
    refine wpAnyH_take (i := 1) (oi := ⟨some 8, _, _, _, _, _⟩) (v := ?_) rfl (by kernel_rfl) (by kernel_rfl) (by kernel_rfl) (fun _ _ _ h => h) (Or.inl ⟨by rfl, ?hy1⟩) hS0 ?re1
    case hy1 => ((intro W hSw; obtain ⟨hSa, hSb⟩ := hSw; obtain ⟨x0, x1, x2, x3, x4, x5, x6, x7, x8, x9⟩ : W.cell? ⟨w.heap.size, 0, none⟩ = some (.slice a1 n1 c1) ∧ W.cell? ⟨w.heap.size, 1, none⟩ = some (.bool o1) ∧ W.cell? ⟨w.heap.size, 2, none⟩ = some (.int .i64 ct1) ∧ W.cell? ⟨w.heap.size, 3, none⟩ = some (.int .i64 co1) ∧ W.cell? ⟨w.heap.size, 4, none⟩ = some (.int .i64 cp1) ∧ W.cell? ⟨w.heap.size, 5, none⟩ = some (.slice f1 p1 g1) ∧ W.cell? ⟨w.heap.size, 6, none⟩ = some (.int .i64 l1) ∧ W.cell? ⟨w.heap.size, 7, none⟩ = some (.int .i64 lt1) ∧ W.cell? ⟨w.heap.size, 8, none⟩ = some (.int .i64 la1) ∧ W.cell? ⟨w.heap.size, 9, none⟩ = some (.slice h1 q1 i1) := ⟨hSa.cell 0, hSa.cell 1, hSa.cell 2, hSa.cell 3, hSa.cell 4, hSa.cell 5, hSa.cell 6, hSa.cell 7, hSa.cell 8, hSa.cell 9⟩; obtain ⟨y0, y1, y2, y3, y4, y5, y6, y7, y8, y9⟩ : W.cell? ⟨w.heap.size + 1, 0, none⟩ = some (.slice a2 n2 c2) ∧ W.cell? ⟨w.heap.size + 1, 1, none⟩ = some (.bool o1) ∧ W.cell? ⟨w.heap.size + 1, 2, none⟩ = some (.int .i64 ct1) ∧ W.cell? ⟨w.heap.size + 1, 3, none⟩ = some (.int .i64 co1) ∧ W.cell? ⟨w.heap.size + 1, 4, none⟩ = some (.int .i64 cp2) ∧ W.cell? ⟨w.heap.size + 1, 5, none⟩ = some (.slice f2 p2 g2) ∧ W.cell? ⟨w.heap.size + 1, 6, none⟩ = some (.int .i64 l1) ∧ W.cell? ⟨w.heap.size + 1, 7, none⟩ = some (.int .i64 lt2) ∧ W.cell? ⟨w.heap.size + 1, 8, none⟩ = some (.int .i64 la2) ∧ W.cell? ⟨w.heap.size + 1, 9, none⟩ = some (.slice h2 q2 i2) := ⟨hSb.cell 0, hSb.cell 1, hSb.cell 2, hSb.cell 3, hSb.cell 4, hSb.cell 5, hSb.cell 6, hSb.cell 7, hSb.cell 8, hSb.cell 9⟩; clear hSa hSb; go_simp); first | done | with_reducible rfl)
    (try simp only [Act.put, List.setIfInBounds_toArray, List.set_cons_zero, List.set_cons_succ])
    refine wpAnyH_take (i := 3) (oi := ⟨some 10, _, _, _, _, _⟩) (v := ?_) rfl (by kernel_rfl) (by kernel_rfl) (by kernel_rfl) (fun _ _ _ h => h) (Or.inl ⟨by rfl, ?hy3⟩) hS0 ?re3
    case hy3 => ((intro W hSw; obtain ⟨hSa, hSb⟩ := hSw; obtain ⟨x0, x1, x2, x3, x4, x5, x6, x7, x8, x9⟩ : W.cell? ⟨w.heap.size, 0, none⟩ = some (.slice a1 n1 c1) ∧ W.cell? ⟨w.heap.size, 1, none⟩ = some (.bool o1) ∧ W.cell? ⟨w.heap.size, 2, none⟩ = some (.int .i64 ct1) ∧ W.cell? ⟨w.heap.size, 3, none⟩ = some (.int .i64 co1) ∧ W.cell? ⟨w.heap.size, 4, none⟩ = some (.int .i64 cp1) ∧ W.cell? ⟨w.heap.size, 5, none⟩ = some (.slice f1 p1 g1) ∧ W.cell? ⟨w.heap.size, 6, none⟩ = some (.int .i64 l1) ∧ W.cell? ⟨w.heap.size, 7, none⟩ = some (.int .i64 lt1) ∧ W.cell? ⟨w.heap.size, 8, none⟩ = some (.int .i64 la1) ∧ W.cell? ⟨w.heap.size, 9, none⟩ = some (.slice h1 q1 i1) := ⟨hSa.cell 0, hSa.cell 1, hSa.cell 2, hSa.cell 3, hSa.cell 4, hSa.cell 5, hSa.cell 6, hSa.cell 7, hSa.cell 8, hSa.cell 9⟩; obtain ⟨y0, y1, y2, y3, y4, y5, y6, y7, y8, y9⟩ : W.cell? ⟨w.heap.size + 1, 0, none⟩ = some (.slice a2 n2 c2) ∧ W.cell? ⟨w.heap.size + 1, 1, none⟩ = some (.bool o1) ∧ W.cell? ⟨w.heap.size + 1, 2, none⟩ = some (.int .i64 ct1) ∧ W.cell? ⟨w.heap.size + 1, 3, none⟩ = some (.int .i64 co1) ∧ W.cell? ⟨w.heap.size + 1, 4, none⟩ = some (.int .i64 cp2) ∧ W.cell? ⟨w.heap.size + 1, 5, none⟩ = some (.slice f2 p2 g2) ∧ W.cell? ⟨w.heap.size + 1, 6, none⟩ = some (.int .i64 l1) ∧ W.cell? ⟨w.heap.size + 1, 7, none⟩ = some (.int .i64 lt2) ∧ W.cell? ⟨w.heap.size + 1, 8, none⟩ = some (.int .i64 la2) ∧ W.cell? ⟨w.heap.size + 1, 9, none⟩ = some (.slice h2 q2 i2) := ⟨hSb.cell 0, hSb.cell 1, hSb.cell 2, hSb.cell 3, hSb.cell 4, hSb.cell 5, hSb.cell 6, hSb.cell 7, hSb.cell 8, hSb.cell 9⟩; clear hSa hSb; go_simp); first | done | with_reducible rfl)
    (try simp only [Act.put, List.setIfInBounds_toArray, List.set_cons_zero, List.set_cons_succ])
    refine wpAnyH_ready (rs := [4, 5]) (by kernel_rfl) (by simp) ?_
    refine AllReadyH.cons rfl (fun K hK => ?_) (AllReadyH.cons rfl (fun K hK => ?_) AllReadyH.nil)
    · go_simp
      refine hK.out _ _ (HK1.out _) (fun _ => ?_)
      clear hK K
      (try simp only [Act.put, List.setIfInBounds_toArray, List.set_cons_zero, List.set_cons_succ])
      refine wpAnyH_ready (rs := [5]) (by kernel_rfl) (by simp) ?_
      refine AllReadyH.cons rfl (fun K hK => ?_) AllReadyH.nil
      go_simp
      refine hK.out _ _ (HK2.out _ _) (fun _ => ?_)
      clear hK K
      (try simp only [Act.put, List.setIfInBounds_toArray, List.set_cons_zero, List.set_cons_succ])
      refine wpAnyH_ready (rs := [6]) (by kernel_rfl) (by simp) ?_
      refine AllReadyH.cons rfl (fun K hK => ?_) AllReadyH.nil
      go_simp
      refine hK.out _ _ (HK2.out _ _) (fun _ => ?_)
      clear hK K
      (try simp only [Act.put, List.setIfInBounds_toArray, List.set_cons_zero, List.set_cons_succ])
      refine wpAnyH_ready (rs := [7]) (by kernel_rfl) (by simp) ?_
      refine AllReadyH.cons rfl (fun K hK => ?_) AllReadyH.nil
      go_simp
      refine hK.out _ _ (HK2.out _ _) (fun _ => ?_)
      clear hK K
      (try simp only [Act.put, List.setIfInBounds_toArray, List.set_cons_zero, List.set_cons_succ])
      refine wpAnyH_done (by kernel_rfl) ?_ _
      refine NoPanic.normal ?_
      go_wp2_with fail
      go_meet
      exact ⟨_, _, rfl, rfl, (Bk.new W0 _ [_, _, _, _, _, _, _, _, _]).alloc _, Bk.newAt _ _ [_, _, _, _, _, _, _, _, _] (by simp), ((low_alloc _ _).alloc (by simp) _).drew⟩
    · go_simp
      refine hK.out _ _ (HK1.out _) (fun _ => ?_)
      clear hK K
      (try simp only [Act.put, List.setIfInBounds_toArray, List.set_cons_zero, List.set_cons_succ])
      refine wpAnyH_ready (rs := [4]) (by kernel_rfl) (by simp) ?_
      refine AllReadyH.cons rfl (fun K hK => ?_) AllReadyH.nil
      go_simp
      refine hK.out _ _ (HK2.out _ _) (fun _ => ?_)
      clear hK K
      (try simp only [Act.put, List.setIfInBounds_toArray, List.set_cons_zero, List.set_cons_succ])
      refine wpAnyH_ready (rs := [6]) (by kernel_rfl) (by simp) ?_
      refine AllReadyH.cons rfl (fun K hK => ?_) AllReadyH.nil
      go_simp
      refine hK.out _ _ (HK2.out _ _) (fun _ => ?_)
      clear hK K
      (try simp only [Act.put, List.setIfInBounds_toArray, List.set_cons_zero, List.set_cons_succ])
      refine wpAnyH_ready (rs := [7]) (by kernel_rfl) (by simp) ?_
      refine AllReadyH.cons rfl (fun K hK => ?_) AllReadyH.nil
      go_simp
      refine hK.out _ _ (HK2.out _ _) (fun _ => ?_)
      clear hK K
      (try simp only [Act.put, List.setIfInBounds_toArray, List.set_cons_zero, List.set_cons_succ])
      refine wpAnyH_done (by kernel_rfl) ?_ _
      refine NoPanic.normal ?_
      go_wp2_with fail
      go_meet
      exact ⟨_, _, rfl, rfl, Bk.newAt _ _ [_, _, _, _, _, _, _, _, _] (by simp), (Bk.new W0 _ [_, _, _, _, _, _, _, _, _]).alloc _, ((low_alloc _ _).alloc (by simp) _).drew⟩
  case rest =>
    obtain ⟨p, q, rfl, rfl, hp, hq, hb⟩ := hcut
    have hlow := stepAny HL.out hb
    have y0 := (HA.out.below hb HA.out.lt).cell 0
    have z0 := (HB0.out.below hb HB0.out.lt).cell 0
    simp only [List.getElem?_cons_zero] at y0 z0
    obtain ⟨e0, e1, e2, e3, e4, e5, e6, e7, e8⟩ : wc.cell? ⟨p, 0, none⟩ = some (.bool o1) ∧ wc.cell? ⟨p, 1, none⟩ = some (.int .i64 ct1) ∧ wc.cell? ⟨p, 2, none⟩ = some (.int .i64 co1) ∧ wc.cell? ⟨p, 3, none⟩ = some (.int .i64 cp1) ∧ wc.cell? ⟨p, 4, none⟩ = some (.slice f1 p1 g1) ∧ wc.cell? ⟨p, 5, none⟩ = some (.int .i64 l1) ∧ wc.cell? ⟨p, 6, none⟩ = some (.int .i64 lt1) ∧ wc.cell? ⟨p, 7, none⟩ = some (.int .i64 la1) ∧ wc.cell? ⟨p, 8, none⟩ = some (.slice h1 q1 i1) := ⟨hp.cell 0, hp.cell 1, hp.cell 2, hp.cell 3, hp.cell 4, hp.cell 5, hp.cell 6, hp.cell 7, hp.cell 8⟩
    obtain ⟨j0, j1, j2, j3, j4, j5, j6, j7, j8⟩ : wc.cell? ⟨q, 0, none⟩ = some (.bool o1) ∧ wc.cell? ⟨q, 1, none⟩ = some (.int .i64 ct1) ∧ wc.cell? ⟨q, 2, none⟩ = some (.int .i64 co1) ∧ wc.cell? ⟨q, 3, none⟩ = some (.int .i64 cp2) ∧ wc.cell? ⟨q, 4, none⟩ = some (.slice f2 p2 g2) ∧ wc.cell? ⟨q, 5, none⟩ = some (.int .i64 l1) ∧ wc.cell? ⟨q, 6, none⟩ = some (.int .i64 lt2) ∧ wc.cell? ⟨q, 7, none⟩ = some (.int .i64 la2) ∧ wc.cell? ⟨q, 8, none⟩ = some (.slice h2 q2 i2) := ⟨hq.cell 0, hq.cell 1, hq.cell 2, hq.cell 3, hq.cell 4, hq.cell 5, hq.cell 6, hq.cell 7, hq.cell 8⟩
    clear hb hp hq
    iterate 3 (first | go_values | go_skip | go_guarded | go_step | go_upon | go_back)
    simp only [List.append_eq, List.cons_append, List.nil_append]
    go_wp2_with (first | (go_at_call 42; (with_reducible refine (HE.out _ hlow).mono ?_); rintro e w3 ⟨rfl, rfl⟩; dsimp only))
    go_ret
    exact ⟨rfl, hlow⟩

set_option maxRecDepth 100000 in
set_option maxHeartbeats 8000000 in
theorem deq6 (o1 o2 : Bool) (ct1 co1 cp1 l1 lt1 la1 ct2 co2 cp2 l2 lt2 la2 : Int) (a1 f1 h1 a2 f2 h2 : Option Addr) (n1 c1 p1 g1 q1 i1 n2 c2 p2 g2 q2 i2 : Nat) (w : World) (r : Bool)
    (HE : Hid (∀ W, Below w.heap.size w W → Calls Try.prog 42 #[.slice a1 n1 c1, .slice a2 n2 c2, .func (.func 43) #[] #[]] W fun e w' => e = .returned (.bool true) ∧ W = w'))
    (HB : Hid (∀ W, Below w.heap.size w W → Calls Try.prog 43 #[.slice f1 p1 g1, .slice f2 p2 g2] W fun e w' => e = .returned (.bool false) ∧ W = w')) :
    Calls Try.prog 19 #[.agg #[.slice a1 n1 c1, .bool o1, .int .i64 ct1, .int .i64 co1, .int .i64 cp1, .slice f1 p1 g1, .int .i64 l1, .int .i64 lt1, .int .i64 la1, .slice h1 q1 i1], .agg #[.slice a2 n2 c2, .bool o1, .int .i64 ct1, .int .i64 co1, .int .i64 cp1, .slice f2 p2 g2, .int .i64 l1, .int .i64 lt2, .int .i64 la2, .slice h2 q2 i2]] w fun e w' => e = .returned (.bool false) ∧ Below w.heap.size w w' := by
  obtain ⟨W0, hW0⟩ : ∃ W0, W0 = (w.alloc (.cells #[.slice a1 n1 c1, .bool o1, .int .i64 ct1, .int .i64 co1, .int .i64 cp1, .slice f1 p1 g1, .int .i64 l1, .int .i64 lt1, .int .i64 la1, .slice h1 q1 i1] 39 (0, 0))).alloc (.cells #[.slice a2 n2 c2, .bool o1, .int .i64 ct1, .int .i64 co1, .int .i64 cp1, .slice f2 p2 g2, .int .i64 l1, .int .i64 lt2, .int .i64 la2, .slice h2 q2 i2] 39 (0, 0)) := ⟨_, rfl⟩
  have hA : Bk W0 w.heap.size 39 [.slice a1 n1 c1, .bool o1, .int .i64 ct1, .int .i64 co1, .int .i64 cp1, .slice f1 p1 g1, .int .i64 l1, .int .i64 lt1, .int .i64 la1, .slice h1 q1 i1] := by rw [hW0]; exact (Bk.new w _ [_, _, _, _, _, _, _, _, _, _]).alloc _
  have hB : Bk W0 (w.heap.size + 1) 39 [.slice a2 n2 c2, .bool o1, .int .i64 ct1, .int .i64 co1, .int .i64 cp1, .slice f2 p2 g2, .int .i64 l1, .int .i64 lt2, .int .i64 la2, .slice h2 q2 i2] := by rw [hW0]; exact Bk.newAt _ _ [_, _, _, _, _, _, _, _, _, _] (by simp)
  have hL : Below w.heap.size w W0 := by rw [hW0]; exact (low_alloc _ _).alloc (by simp) _
  have hs0 : W0.heap.size = w.heap.size + 1 + 1 := by rw [hW0]; simp
  have HA := Lib.hid hA
  have HB0 := Lib.hid hB
  have HL := Lib.hid hL
  have HS0 := Lib.hid hs0
  clear hA hB hL hs0
  go_enter Try.func19, Try.ntmps19
  go_upto_region 1 with fail
  rw [← hW0]
  clear hW0
  go_cut [5, 6] (fun s5 s6 W' => ∃ p q, s5 = .pointer (some ⟨p, 0, none⟩) ∧ s6 = .pointer (some ⟨q, 0, none⟩) ∧ Bk W' p 37 [.bool o1, .int .i64 ct1, .int .i64 co1, .int .i64 cp1, .slice f1 p1 g1, .int .i64 l1, .int .i64 lt1, .int .i64 la1, .slice h1 q1 i1] ∧ Bk W' q 37 [.bool o1, .int .i64 ct1, .int .i64 co1, .int .i64 cp1, .slice f2 p2 g2, .int .i64 l1, .int .i64 lt2, .int .i64 la2, .slice h2 q2 i2] ∧ Below W0.heap.size W0 W')
  case first =>
    have hS0 : (fun w' => Bk w' w.heap.size 39 [.slice a1 n1 c1, .bool o1, .int .i64 ct1, .int .i64 co1, .int .i64 cp1, .slice f1 p1 g1, .int .i64 l1, .int .i64 lt1, .int .i64 la1, .slice h1 q1 i1] ∧ Bk w' (w.heap.size + 1) 39 [.slice a2 n2 c2, .bool o1, .int .i64 ct1, .int .i64 co1, .int .i64 cp1, .slice f2 p2 g2, .int .i64 l1, .int .i64 lt2, .int .i64 la2, .slice h2 q2 i2]) W0.drew := ⟨HA.out, HB0.out⟩
    have HK1 : Hid (∀ o, Bk (W0.alloc o).drew w.heap.size 39 [.slice a1 n1 c1, .bool o1, .int .i64 ct1, .int .i64 co1, .int .i64 cp1, .slice f1 p1 g1, .int .i64 l1, .int .i64 lt1, .int .i64 la1, .slice h1 q1 i1] ∧ Bk (W0.alloc o).drew (w.heap.size + 1) 39 [.slice a2 n2 c2, .bool o1, .int .i64 ct1, .int .i64 co1, .int .i64 cp1, .slice f2 p2 g2, .int .i64 l1, .int .i64 lt2, .int .i64 la2, .slice h2 q2 i2]) := fun o => ⟨HA.out.alloc o, HB0.out.alloc o⟩
    have HK2 : Hid (∀ o o', Bk ((W0.alloc o).alloc o').drew w.heap.size 39 [.slice a1 n1 c1, .bool o1, .int .i64 ct1, .int .i64 co1, .int .i64 cp1, .slice f1 p1 g1, .int .i64 l1, .int .i64 lt1, .int .i64 la1, .slice h1 q1 i1] ∧ Bk ((W0.alloc o).alloc o').drew (w.heap.size + 1) 39 [.slice a2 n2 c2, .bool o1, .int .i64 ct1, .int .i64 co1, .int .i64 cp1, .slice f2 p2 g2, .int .i64 l1, .int .i64 lt2, .int .i64 la2, .slice h2 q2 i2]) := fun o o' => ⟨(HA.out.alloc o).alloc o', (HB0.out.alloc o).alloc o'⟩
    refine wp_region_noPanic ?_
    refine wp_region_held_drew (S := fun w' => Bk w' w.heap.size 39 [.slice a1 n1 c1, .bool o1, .int .i64 ct1, .int .i64 co1, .int .i64 cp1, .slice f1 p1 g1, .int .i64 l1, .int .i64 lt1, .int .i64 la1, .slice h1 q1 i1] ∧ Bk w' (w.heap.size + 1) 39 [.slice a2 n2 c2, .bool o1, .int .i64 ct1, .int .i64 co1, .int .i64 cp1, .slice f2 p2 g2, .int .i64 l1, .int .i64 lt2, .int .i64 la2, .slice h2 q2 i2]) (by kernel_rfl) hS0 (fun _ => ?_)
    refine wpAnyH_take (i := 0) (oi := ⟨some 7, _, _, _, _, _⟩) (v := ?_) rfl (by kernel_rfl) (by kernel_rfl) (by kernel_rfl) (fun _ _ _ h => h) (Or.inl ⟨by rfl, ?hy0⟩) hS0 ?re0
    case hy0 => ((intro W hSw; obtain ⟨hSa, hSb⟩ := hSw; obtain ⟨x0, x1, x2, x3, x4, x5, x6, x7, x8, x9⟩ : W.cell? ⟨w.heap.size, 0, none⟩ = some (.slice a1 n1 c1) ∧ W.cell? ⟨w.heap.size, 1, none⟩ = some (.bool o1) ∧ W.cell? ⟨w.heap.size, 2, none⟩ = some (.int .i64 ct1) ∧ W.cell? ⟨w.heap.size, 3, none⟩ = some (.int .i64 co1) ∧ W.cell? ⟨w.heap.size, 4, none⟩ = some (.int .i64 cp1) ∧ W.cell? ⟨w.heap.size, 5, none⟩ = some (.slice f1 p1 g1) ∧ W.cell? ⟨w.heap.size, 6, none⟩ = some (.int .i64 l1) ∧ W.cell? ⟨w.heap.size, 7, none⟩ = some (.int .i64 lt1) ∧ W.cell? ⟨w.heap.size, 8, none⟩ = some (.int .i64 la1) ∧ W.cell? ⟨w.heap.size, 9, none⟩ = some (.slice h1 q1 i1) := ⟨hSa.cell 0, hSa.cell 1, hSa.cell 2, hSa.cell 3, hSa.cell 4, hSa.cell 5, hSa.cell 6, hSa.cell 7, hSa.cell 8, hSa.cell 9⟩; obtain ⟨y0, y1, y2, y3, y4, y5, y6, y7, y8, y9⟩ : W.cell? ⟨w.heap.size + 1, 0, none⟩ = some (.slice a2 n2 c2) ∧ W.cell? ⟨w.heap.size + 1, 1, none⟩ = some (.bool o1) ∧ W.cell? ⟨w.heap.size + 1, 2, none⟩ = some (.int .i64 ct1) ∧ W.cell? ⟨w.heap.size + 1, 3, none⟩ = some (.int .i64 co1) ∧ W.cell? ⟨w.heap.size + 1, 4, none⟩ = some (.int .i64 cp1) ∧ W.cell? ⟨w.heap.size + 1, 5, none⟩ = some (.slice f2 p2 g2) ∧ W.cell? ⟨w.heap.size + 1, 6, none⟩ = some (.int .i64 l1) ∧ W.cell? ⟨w.heap.size + 1, 7, none⟩ = some (.int .i64 lt2) ∧ W.cell? ⟨w.heap.size + 1, 8, none⟩ = some (.int .i64 la2) ∧ W.cell? ⟨w.heap.size + 1, 9, none⟩ = some (.slice h2 q2 i2) := ⟨hSb.cell 0, hSb.cell 1, hSb.cell 2, hSb.cell 3, hSb.cell 4, hSb.cell 5, hSb.cell 6, hSb.cell 7, hSb.cell 8, hSb.cell 9⟩; clear hSa hSb; go_simp); first | done | with_reducible rfl)
    (try simp only [Act.put, List.setIfInBounds_toArray, List.set_cons_zero, List.set_cons_succ])
    refine wpAnyH_take (i := 2) (oi := ⟨some 9, _, _, _, _, _⟩) (v := ?_) rfl (by kernel_rfl) (by kernel_rfl) (by kernel_rfl) (fun _ _ _ h => h) (Or.inl ⟨by rfl, ?hy2⟩) hS0 ?re2
    case hy2 => ((intro W hSw; obtain ⟨hSa, hSb⟩ := hSw; obtain ⟨x0, x1, x2, x3, x4, x5, x6, x7, x8, x9⟩ : W.cell? ⟨w.heap.size, 0, none⟩ = some (.slice a1 n1 c1) ∧ W.cell? ⟨w.heap.size, 1, none⟩ = some (.bool o1) ∧ W.cell? ⟨w.heap.size, 2, none⟩ = some (.int .i64 ct1) ∧ W.cell? ⟨w.heap.size, 3, none⟩ = some (.int .i64 co1) ∧ W.cell? ⟨w.heap.size, 4, none⟩ = some (.int .i64 cp1) ∧ W.cell? ⟨w.heap.size, 5, none⟩ = some (.slice f1 p1 g1) ∧ W.cell? ⟨w.heap.size, 6, none⟩ = some (.int .i64 l1) ∧ W.cell? ⟨w.heap.size, 7, none⟩ = some (.int .i64 lt1) ∧ W.cell? ⟨w.heap.size, 8, none⟩ = some (.int .i64 la1) ∧ W.cell? ⟨w.heap.size, 9, none⟩ = some (.slice h1 q1 i1) := ⟨hSa.cell 0, hSa.cell 1, hSa.cell 2, hSa.cell 3, hSa.cell 4, hSa.cell 5, hSa.cell 6, hSa.cell 7, hSa.cell 8, hSa.cell 9⟩; obtain ⟨y0, y1, y2, y3, y4, y5, y6, y7, y8, y9⟩ : W.cell? ⟨w.heap.size + 1, 0, none⟩ = some (.slice a2 n2 c2) ∧ W.cell? ⟨w.heap.size + 1, 1, none⟩ = some (.bool o1) ∧ W.cell? ⟨w.heap.size + 1, 2, none⟩ = some (.int .i64 ct1) ∧ W.cell? ⟨w.heap.size + 1, 3, none⟩ = some (.int .i64 co1) ∧ W.cell? ⟨w.heap.size + 1, 4, none⟩ = some (.int .i64 cp1) ∧ W.cell? ⟨w.heap.size + 1, 5, none⟩ = some (.slice f2 p2 g2) ∧ W.cell? ⟨w.heap.size + 1, 6, none⟩ = some (.int .i64 l1) ∧ W.cell? ⟨w.heap.size + 1, 7, none⟩ = some (.int .i64 lt2) ∧ W.cell? ⟨w.heap.size + 1, 8, none⟩ = some (.int .i64 la2) ∧ W.cell? ⟨w.heap.size + 1, 9, none⟩ = some (.slice h2 q2 i2) := ⟨hSb.cell 0, hSb.cell 1, hSb.cell 2, hSb.cell 3, hSb.cell 4, hSb.cell 5, hSb.cell 6, hSb.cell 7, hSb.cell 8, hSb.cell 9⟩; clear hSa hSb; go_simp); first | done | with_reducible rfl)
    (try simp only [Act.put, List.setIfInBounds_toArray, List.set_cons_zero, List.set_cons_succ])
    refine wpAnyH_take (i := 1) (oi := ⟨some 8, _, _, _, _, _⟩) (v := ?_) rfl (by kernel_rfl) (by kernel_rfl) (by kernel_rfl) (fun _ _ _ h => h) (Or.inl ⟨by rfl, ?hy1⟩) hS0 ?re1
    case hy1 => ((intro W hSw; obtain ⟨hSa, hSb⟩ := hSw; obtain ⟨x0, x1, x2, x3, x4, x5, x6, x7, x8, x9⟩ : W.cell? ⟨w.heap.size, 0, none⟩ = some (.slice a1 n1 c1) ∧ W.cell? ⟨w.heap.size, 1, none⟩ = some (.bool o1) ∧ W.cell? ⟨w.heap.size, 2, none⟩ = some (.int .i64 ct1) ∧ W.cell? ⟨w.heap.size, 3, none⟩ = some (.int .i64 co1) ∧ W.cell? ⟨w.heap.size, 4, none⟩ = some (.int .i64 cp1) ∧ W.cell? ⟨w.heap.size, 5, none⟩ = some (.slice f1 p1 g1) ∧ W.cell? ⟨w.heap.size, 6, none⟩ = some (.int .i64 l1) ∧ W.cell? ⟨w.heap.size, 7, none⟩ = some (.int .i64 lt1) ∧ W.cell? ⟨w.heap.size, 8, none⟩ = some (.int .i64 la1) ∧ W.cell? ⟨w.heap.size, 9, none⟩ = some (.slice h1 q1 i1) := ⟨hSa.cell 0, hSa.cell 1, hSa.cell 2, hSa.cell 3, hSa.cell 4, hSa.cell 5, hSa.cell 6, hSa.cell 7, hSa.cell 8, hSa.cell 9⟩; obtain ⟨y0, y1, y2, y3, y4, y5, y6, y7, y8, y9⟩ : W.cell? ⟨w.heap.size + 1, 0, none⟩ = some (.slice a2 n2 c2) ∧ W.cell? ⟨w.heap.size + 1, 1, none⟩ = some (.bool o1) ∧ W.cell? ⟨w.heap.size + 1, 2, none⟩ = some (.int .i64 ct1) ∧ W.cell? ⟨w.heap.size + 1, 3, none⟩ = some (.int .i64 co1) ∧ W.cell? ⟨w.heap.size + 1, 4, none⟩ = some (.int .i64 cp1) ∧ W.cell? ⟨w.heap.size + 1, 5, none⟩ = some (.slice f2 p2 g2) ∧ W.cell? ⟨w.heap.size + 1, 6, none⟩ = some (.int .i64 l1) ∧ W.cell? ⟨w.heap.size + 1, 7, none⟩ = some (.int .i64 lt2) ∧ W.cell? ⟨w.heap.size + 1, 8, none⟩ = some (.int .i64 la2) ∧ W.cell? ⟨w.heap.size + 1, 9, none⟩ = some (.slice h2 q2 i2) := ⟨hSb.cell 0, hSb.cell 1, hSb.cell 2, hSb.cell 3, hSb.cell 4, hSb.cell 5, hSb.cell 6, hSb.cell 7, hSb.cell 8, hSb.cell 9⟩; clear hSa hSb; go_simp); first | done | with_reducible rfl)
    (try simp only [Act.put, List.setIfInBounds_toArray, List.set_cons_zero, List.set_cons_succ])
    refine wpAnyH_take (i := 3) (oi := ⟨some 10, _, _, _, _, _⟩) (v := ?_) rfl (by kernel_rfl) (by kernel_rfl) (by kernel_rfl) (fun _ _ _ h => h) (Or.inl ⟨by rfl, ?hy3⟩) hS0 ?re3
    case hy3 => ((intro W hSw; obtain ⟨hSa, hSb⟩ := hSw; obtain ⟨x0, x1, x2, x3, x4, x5, x6, x7, x8, x9⟩ : W.cell? ⟨w.heap.size, 0, none⟩ = some (.slice a1 n1 c1) ∧ W.cell? ⟨w.heap.size, 1, none⟩ = some (.bool o1) ∧ W.cell? ⟨w.heap.size, 2, none⟩ = some (.int .i64 ct1) ∧ W.cell? ⟨w.heap.size, 3, none⟩ = some (.int .i64 co1) ∧ W.cell? ⟨w.heap.size, 4, none⟩ = some (.int .i64 cp1) ∧ W.cell? ⟨w.heap.size, 5, none⟩ = some (.slice f1 p1 g1) ∧ W.cell? ⟨w.heap.size, 6, none⟩ = some (.int .i64 l1) ∧ W.cell? ⟨w.heap.size, 7, none⟩ = some (.int .i64 lt1) ∧ W.cell? ⟨w.heap.size, 8, none⟩ = some (.int .i64 la1) ∧ W.cell? ⟨w.heap.size, 9, none⟩ = some (.slice h1 q1 i1) := ⟨hSa.cell 0, hSa.cell 1, hSa.cell 2, hSa.cell 3, hSa.cell 4, hSa.cell 5, hSa.cell 6, hSa.cell 7, hSa.cell 8, hSa.cell 9⟩; obtain ⟨y0, y1, y2, y3, y4, y5, y6, y7, y8, y9⟩ : W.cell? ⟨w.heap.size + 1, 0, none⟩ = some (.slice a2 n2 c2) ∧ W.cell? ⟨w.heap.size + 1, 1, none⟩ = some (.bool o1) ∧ W.cell? ⟨w.heap.size + 1, 2, none⟩ = some (.int .i64 ct1) ∧ W.cell? ⟨w.heap.size + 1, 3, none⟩ = some (.int .i64 co1) ∧ W.cell? ⟨w.heap.size + 1, 4, none⟩ = some (.int .i64 cp1) ∧ W.cell? ⟨w.heap.size + 1, 5, none⟩ = some (.slice f2 p2 g2) ∧ W.cell? ⟨w.heap.size + 1, 6, none⟩ = some (.int .i64 l1) ∧ W.cell? ⟨w.heap.size + 1, 7, none⟩ = some (.int .i64 lt2) ∧ W.cell? ⟨w.heap.size + 1, 8, none⟩ = some (.int .i64 la2) ∧ W.cell? ⟨w.heap.size + 1, 9, none⟩ = some (.slice h2 q2 i2) := ⟨hSb.cell 0, hSb.cell 1, hSb.cell 2, hSb.cell 3, hSb.cell 4, hSb.cell 5, hSb.cell 6, hSb.cell 7, hSb.cell 8, hSb.cell 9⟩; clear hSa hSb; go_simp); first | done | with_reducible rfl)
    (try simp only [Act.put, List.setIfInBounds_toArray, List.set_cons_zero, List.set_cons_succ])
    refine wpAnyH_ready (rs := [4, 5]) (by kernel_rfl) (by simp) ?_
    refine AllReadyH.cons rfl (fun K hK => ?_) (AllReadyH.cons rfl (fun K hK => ?_) AllReadyH.nil)
    · go_simp
      refine hK.out _ _ (HK1.out _) (fun _ => ?_)
      clear hK K
      (try simp only [Act.put, List.setIfInBounds_toArray, List.set_cons_zero, List.set_cons_succ])
      refine wpAnyH_ready (rs := [5]) (by kernel_rfl) (by simp) ?_
      refine AllReadyH.cons rfl (fun K hK => ?_) AllReadyH.nil
      go_simp
      refine hK.out _ _ (HK2.out _ _) (fun _ => ?_)
      clear hK K
      (try simp only [Act.put, List.setIfInBounds_toArray, List.set_cons_zero, List.set_cons_succ])
      refine wpAnyH_ready (rs := [6]) (by kernel_rfl) (by simp) ?_
      refine AllReadyH.cons rfl (fun K hK => ?_) AllReadyH.nil
      go_simp
      refine hK.out _ _ (HK2.out _ _) (fun _ => ?_)
      clear hK K
      (try simp only [Act.put, List.setIfInBounds_toArray, List.set_cons_zero, List.set_cons_succ])
      refine wpAnyH_ready (rs := [7]) (by kernel_rfl) (by simp) ?_
      refine AllReadyH.cons rfl (fun K hK => ?_) AllReadyH.nil
      go_simp
      refine hK.out _ _ (HK2.out _ _) (fun _ => ?_)
      clear hK K
      (try simp only [Act.put, List.setIfInBounds_toArray, List.set_cons_zero, List.set_cons_succ])
      refine wpAnyH_done (by kernel_rfl) ?_ _
      refine NoPanic.normal ?_
      go_wp2_with fail
      go_meet
      exact ⟨_, _, rfl, rfl, (Bk.new W0 _ [_, _, _, _, _, _, _, _, _]).alloc _, Bk.newAt _ _ [_, _, _, _, _, _, _, _, _] (by simp), ((low_alloc _ _).alloc (by simp) _).drew⟩
    · go_simp
      refine hK.out _ _ (HK1.out _) (fun _ => ?_)
      clear hK K
      (try simp only [Act.put, List.setIfInBounds_toArray, List.set_cons_zero, List.set_cons_succ])
      refine wpAnyH_ready (rs := [4]) (by kernel_rfl) (by simp) ?_
      refine AllReadyH.cons rfl (fun K hK => ?_) AllReadyH.nil
      go_simp
      refine hK.out _ _ (HK2.out _ _) (fun _ => ?_)
      clear hK K
      (try simp only [Act.put, List.setIfInBounds_toArray, List.set_cons_zero, List.set_cons_succ])
      refine wpAnyH_ready (rs := [6]) (by kernel_rfl) (by simp) ?_
      refine AllReadyH.cons rfl (fun K hK => ?_) AllReadyH.nil
      go_simp
      refine hK.out _ _ (HK2.out _ _) (fun _ => ?_)
      clear hK K
      (try simp only [Act.put, List.setIfInBounds_toArray, List.set_cons_zero, List.set_cons_succ])
      refine wpAnyH_ready (rs := [7]) (by kernel_rfl) (by simp) ?_
      refine AllReadyH.cons rfl (fun K hK => ?_) AllReadyH.nil
      go_simp
      refine hK.out _ _ (HK2.out _ _) (fun _ => ?_)
      clear hK K
      (try simp only [Act.put, List.setIfInBounds_toArray, List.set_cons_zero, List.set_cons_succ])
      refine wpAnyH_done (by kernel_rfl) ?_ _
      refine NoPanic.normal ?_
      go_wp2_with fail
      go_meet
      exact ⟨_, _, rfl, rfl, Bk.newAt _ _ [_, _, _, _, _, _, _, _, _] (by simp), (Bk.new W0 _ [_, _, _, _, _, _, _, _, _]).alloc _, ((low_alloc _ _).alloc (by simp) _).drew⟩
  case rest =>
    obtain ⟨p, q, rfl, rfl, hp, hq, hb⟩ := hcut
    have hlow := stepAny HL.out hb
    have y0 := (HA.out.below hb HA.out.lt).cell 0
    have z0 := (HB0.out.below hb HB0.out.lt).cell 0
    simp only [List.getElem?_cons_zero] at y0 z0
    obtain ⟨e0, e1, e2, e3, e4, e5, e6, e7, e8⟩ : wc.cell? ⟨p, 0, none⟩ = some (.bool o1) ∧ wc.cell? ⟨p, 1, none⟩ = some (.int .i64 ct1) ∧ wc.cell? ⟨p, 2, none⟩ = some (.int .i64 co1) ∧ wc.cell? ⟨p, 3, none⟩ = some (.int .i64 cp1) ∧ wc.cell? ⟨p, 4, none⟩ = some (.slice f1 p1 g1) ∧ wc.cell? ⟨p, 5, none⟩ = some (.int .i64 l1) ∧ wc.cell? ⟨p, 6, none⟩ = some (.int .i64 lt1) ∧ wc.cell? ⟨p, 7, none⟩ = some (.int .i64 la1) ∧ wc.cell? ⟨p, 8, none⟩ = some (.slice h1 q1 i1) := ⟨hp.cell 0, hp.cell 1, hp.cell 2, hp.cell 3, hp.cell 4, hp.cell 5, hp.cell 6, hp.cell 7, hp.cell 8⟩
    obtain ⟨j0, j1, j2, j3, j4, j5, j6, j7, j8⟩ : wc.cell? ⟨q, 0, none⟩ = some (.bool o1) ∧ wc.cell? ⟨q, 1, none⟩ = some (.int .i64 ct1) ∧ wc.cell? ⟨q, 2, none⟩ = some (.int .i64 co1) ∧ wc.cell? ⟨q, 3, none⟩ = some (.int .i64 cp1) ∧ wc.cell? ⟨q, 4, none⟩ = some (.slice f2 p2 g2) ∧ wc.cell? ⟨q, 5, none⟩ = some (.int .i64 l1) ∧ wc.cell? ⟨q, 6, none⟩ = some (.int .i64 lt2) ∧ wc.cell? ⟨q, 7, none⟩ = some (.int .i64 la2) ∧ wc.cell? ⟨q, 8, none⟩ = some (.slice h2 q2 i2) := ⟨hq.cell 0, hq.cell 1, hq.cell 2, hq.cell 3, hq.cell 4, hq.cell 5, hq.cell 6, hq.cell 7, hq.cell 8⟩
    clear hb hp hq
    iterate 3 (first | go_values | go_skip | go_guarded | go_step | go_upon | go_back)
    simp only [List.append_eq, List.cons_append, List.nil_append]
    go_wp2_with (first | (go_at_call 42; (with_reducible refine (HE.out _ hlow).mono ?_); rintro e w3 ⟨rfl, rfl⟩; dsimp only) | (go_at_call 43; (with_reducible refine (HB.out _ hlow).mono ?_); rintro e w3 ⟨rfl, rfl⟩; dsimp only))
    go_ret
    exact ⟨rfl, hlow⟩

set_option maxRecDepth 100000 in
set_option maxHeartbeats 8000000 in
theorem deq7 (o1 o2 : Bool) (ct1 co1 cp1 l1 lt1 la1 ct2 co2 cp2 l2 lt2 la2 : Int) (a1 f1 h1 a2 f2 h2 : Option Addr) (n1 c1 p1 g1 q1 i1 n2 c2 p2 g2 q2 i2 : Nat) (w : World) (r : Bool) (hne : (lt1 == lt2) = false)
    (HE : Hid (∀ W, Below w.heap.size w W → Calls Try.prog 42 #[.slice a1 n1 c1, .slice a2 n2 c2, .func (.func 43) #[] #[]] W fun e w' => e = .returned (.bool true) ∧ W = w'))
    (HB : Hid (∀ W, Below w.heap.size w W → Calls Try.prog 43 #[.slice f1 p1 g1, .slice f2 p2 g2] W fun e w' => e = .returned (.bool true) ∧ W = w')) :
    Calls Try.prog 19 #[.agg #[.slice a1 n1 c1, .bool o1, .int .i64 ct1, .int .i64 co1, .int .i64 cp1, .slice f1 p1 g1, .int .i64 l1, .int .i64 lt1, .int .i64 la1, .slice h1 q1 i1], .agg #[.slice a2 n2 c2, .bool o1, .int .i64 ct1, .int .i64 co1, .int .i64 cp1, .slice f2 p2 g2, .int .i64 l1, .int .i64 lt2, .int .i64 la2, .slice h2 q2 i2]] w fun e w' => e = .returned (.bool false) ∧ Below w.heap.size w w' := by
  obtain ⟨W0, hW0⟩ : ∃ W0, W0 = (w.alloc (.cells #[.slice a1 n1 c1, .bool o1, .int .i64 ct1, .int .i64 co1, .int .i64 cp1, .slice f1 p1 g1, .int .i64 l1, .int .i64 lt1, .int .i64 la1, .slice h1 q1 i1] 39 (0, 0))).alloc (.cells #[.slice a2 n2 c2, .bool o1, .int .i64 ct1, .int .i64 co1, .int .i64 cp1, .slice f2 p2 g2, .int .i64 l1, .int .i64 lt2, .int .i64 la2, .slice h2 q2 i2] 39 (0, 0)) := ⟨_, rfl⟩
  have hA : Bk W0 w.heap.size 39 [.slice a1 n1 c1, .bool o1, .int .i64 ct1, .int .i64 co1, .int .i64 cp1, .slice f1 p1 g1, .int .i64 l1, .int .i64 lt1, .int .i64 la1, .slice h1 q1 i1] := by rw [hW0]; exact (Bk.new w _ [_, _, _, _, _, _, _, _, _, _]).alloc _
  have hB : Bk W0 (w.heap.size + 1) 39 [.slice a2 n2 c2, .bool o1, .int .i64 ct1, .int .i64 co1, .int .i64 cp1, .slice f2 p2 g2, .int .i64 l1, .int .i64 lt2, .int .i64 la2, .slice h2 q2 i2] := by rw [hW0]; exact Bk.newAt _ _ [_, _, _, _, _, _, _, _, _, _] (by simp)
  have hL : Below w.heap.size w W0 := by rw [hW0]; exact (low_alloc _ _).alloc (by simp) _
  have hs0 : W0.heap.size = w.heap.size + 1 + 1 := by rw [hW0]; simp
  have HA := Lib.hid hA
  have HB0 := Lib.hid hB
  have HL := Lib.hid hL
  have HS0 := Lib.hid hs0
  clear hA hB hL hs0
  go_enter Try.func19, Try.ntmps19
  go_upto_region 1 with fail
  rw [← hW0]
  clear hW0
  go_cut [5, 6] (fun s5 s6 W' => ∃ p q, s5 = .pointer (some ⟨p, 0, none⟩) ∧ s6 = .pointer (some ⟨q, 0, none⟩) ∧ Bk W' p 37 [.bool o1, .int .i64 ct1, .int .i64 co1, .int .i64 cp1, .slice f1 p1 g1, .int .i64 l1, .int .i64 lt1, .int .i64 la1, .slice h1 q1 i1] ∧ Bk W' q 37 [.bool o1, .int .i64 ct1, .int .i64 co1, .int .i64 cp1, .slice f2 p2 g2, .int .i64 l1, .int .i64 lt2, .int .i64 la2, .slice h2 q2 i2] ∧ Below W0.heap.size W0 W')
  case first =>
    have hS0 : (fun w' => Bk w' w.heap.size 39 [.slice a1 n1 c1, .bool o1, .int .i64 ct1, .int .i64 co1, .int .i64 cp1, .slice f1 p1 g1, .int .i64 l1, .int .i64 lt1, .int .i64 la1, .slice h1 q1 i1] ∧ Bk w' (w.heap.size + 1) 39 [.slice a2 n2 c2, .bool o1, .int .i64 ct1, .int .i64 co1, .int .i64 cp1, .slice f2 p2 g2, .int .i64 l1, .int .i64 lt2, .int .i64 la2, .slice h2 q2 i2]) W0.drew := ⟨HA.out, HB0.out⟩
    have HK1 : Hid (∀ o, Bk (W0.alloc o).drew w.heap.size 39 [.slice a1 n1 c1, .bool o1, .int .i64 ct1, .int .i64 co1, .int .i64 cp1, .slice f1 p1 g1, .int .i64 l1, .int .i64 lt1, .int .i64 la1, .slice h1 q1 i1] ∧ Bk (W0.alloc o).drew (w.heap.size + 1) 39 [.slice a2 n2 c2, .bool o1, .int .i64 ct1, .int .i64 co1, .int .i64 cp1, .slice f2 p2 g2, .int .i64 l1, .int .i64 lt2, .int .i64 la2, .slice h2 q2 i2]) := fun o => ⟨HA.out.alloc o, HB0.out.alloc o⟩
    have HK2 : Hid (∀ o o', Bk ((W0.alloc o).alloc o').drew w.heap.size 39 [.slice a1 n1 c1, .bool o1, .int .i64 ct1, .int .i64 co1, .int .i64 cp1, .slice f1 p1 g1, .int .i64 l1, .int .i64 lt1, .int .i64 la1, .slice h1 q1 i1] ∧ Bk ((W0.alloc o).alloc o').drew (w.heap.size + 1) 39 [.slice a2 n2 c2, .bool o1, .int .i64 ct1, .int .i64 co1, .int .i64 cp1, .slice f2 p2 g2, .int .i64 l1, .int .i64 lt2, .int .i64 la2, .slice h2 q2 i2]) := fun o o' => ⟨(HA.out.alloc o).alloc o', (HB0.out.alloc o).alloc o'⟩
    refine wp_region_noPanic ?_
    refine wp_region_held_drew (S := fun w' => Bk w' w.heap.size 39 [.slice a1 n1 c1, .bool o1, .int .i64 ct1, .int .i64 co1, .int .i64 cp1, .slice f1 p1 g1, .int .i64 l1, .int .i64 lt1, .int .i64 la1, .slice h1 q1 i1] ∧ Bk w' (w.heap.size + 1) 39 [.slice a2 n2 c2, .bool o1, .int .i64 ct1, .int .i64 co1, .int .i64 cp1, .slice f2 p2 g2, .int .i64 l1, .int .i64 lt2, .int .i64 la2, .slice h2 q2 i2]) (by kernel_rfl) hS0 (fun _ => ?_)
    refine wpAnyH_take (i := 0) (oi := ⟨some 7, _, _, _, _, _⟩) (v := ?_) rfl (by kernel_rfl) (by kernel_rfl) (by kernel_rfl) (fun _ _ _ h => h) (Or.inl ⟨by rfl, ?hy0⟩) hS0 ?re0
    case hy0 => ((intro W hSw; obtain ⟨hSa, hSb⟩ := hSw; obtain ⟨x0, x1, x2, x3, x4, x5, x6, x7, x8, x9⟩ : W.cell? ⟨w.heap.size, 0, none⟩ = some (.slice a1 n1 c1) ∧ W.cell? ⟨w.heap.size, 1, none⟩ = some (.bool o1) ∧ W.cell? ⟨w.heap.size, 2, none⟩ = some (.int .i64 ct1) ∧ W.cell? ⟨w.heap.size, 3, none⟩ = some (.int .i64 co1) ∧ W.cell? ⟨w.heap.size, 4, none⟩ = some (.int .i64 cp1) ∧ W.cell? ⟨w.heap.size, 5, none⟩ = some (.slice f1 p1 g1) ∧ W.cell? ⟨w.heap.size, 6, none⟩ = some (.int .i64 l1) ∧ W.cell? ⟨w.heap.size, 7, none⟩ = some (.int .i64 lt1) ∧ W.cell? ⟨w.heap.size, 8, none⟩ = some (.int .i64 la1) ∧ W.cell? ⟨w.heap.size, 9, none⟩ = some (.slice h1 q1 i1) := ⟨hSa.cell 0, hSa.cell 1, hSa.cell 2, hSa.cell 3, hSa.cell 4, hSa.cell 5, hSa.cell 6, hSa.cell 7, hSa.cell 8, hSa.cell 9⟩; obtain ⟨y0, y1, y2, y3, y4, y5, y6, y7, y8, y9⟩ : W.cell? ⟨w.heap.size + 1, 0, none⟩ = some (.slice a2 n2 c2) ∧ W.cell? ⟨w.heap.size + 1, 1, none⟩ = some (.bool o1) ∧ W.cell? ⟨w.heap.size + 1, 2, none⟩ = some (.int .i64 ct1) ∧ W.cell? ⟨w.heap.size + 1, 3, none⟩ = some (.int .i64 co1) ∧ W.cell? ⟨w.heap.size + 1, 4, none⟩ = some (.int .i64 cp1) ∧ W.cell? ⟨w.heap.size + 1, 5, none⟩ = some (.slice f2 p2 g2) ∧ W.cell? ⟨w.heap.size + 1, 6, none⟩ = some (.int .i64 l1) ∧ W.cell? ⟨w.heap.size + 1, 7, none⟩ = some (.int .i64 lt2) ∧ W.cell? ⟨w.heap.size + 1, 8, none⟩ = some (.int .i64 la2) ∧ W.cell? ⟨w.heap.size + 1, 9, none⟩ = some (.slice h2 q2 i2) := ⟨hSb.cell 0, hSb.cell 1, hSb.cell 2, hSb.cell 3, hSb.cell 4, hSb.cell 5, hSb.cell 6, hSb.cell 7, hSb.cell 8, hSb.cell 9⟩; clear hSa hSb; go_simp); first | done | with_reducible rfl)
    (try simp only [Act.put, List.setIfInBounds_toArray, List.set_cons_zero, List.set_cons_succ])
    refine wpAnyH_take (i := 2) (oi := ⟨some 9, _, _, _, _, _⟩) (v := ?_) rfl (by kernel_rfl) (by kernel_rfl) (by kernel_rfl) (fun _ _ _ h => h) (Or.inl ⟨by rfl, ?hy2⟩) hS0 ?re2
    case hy2 => ((intro W hSw; obtain ⟨hSa, hSb⟩ := hSw; obtain ⟨x0, x1, x2, x3, x4, x5, x6, x7, x8, x9⟩ : W.cell? ⟨w.heap.size, 0, none⟩ = some (.slice a1 n1 c1) ∧ W.cell? ⟨w.heap.size, 1, none⟩ = some (.bool o1) ∧ W.cell? ⟨w.heap.size, 2, none⟩ = some (.int .i64 ct1) ∧ W.cell? ⟨w.heap.size, 3, none⟩ = some (.int .i64 co1) ∧ W.cell? ⟨w.heap.size, 4, none⟩ = some (.int .i64 cp1) ∧ W.cell? ⟨w.heap.size, 5, none⟩ = some (.slice f1 p1 g1) ∧ W.cell? ⟨w.heap.size, 6, none⟩ = some (.int .i64 l1) ∧ W.cell? ⟨w.heap.size, 7, none⟩ = some (.int .i64 lt1) ∧ W.cell? ⟨w.heap.size, 8, none⟩ = some (.int .i64 la1) ∧ W.cell? ⟨w.heap.size, 9, none⟩ = some (.slice h1 q1 i1) := ⟨hSa.cell 0, hSa.cell 1, hSa.cell 2, hSa.cell 3, hSa.cell 4, hSa.cell 5, hSa.cell 6, hSa.cell 7, hSa.cell 8, hSa.cell 9⟩; obtain ⟨y0, y1, y2, y3, y4, y5, y6, y7, y8, y9⟩ : W.cell? ⟨w.heap.size + 1, 0, none⟩ = some (.slice a2 n2 c2) ∧ W.cell? ⟨w.heap.size + 1, 1, none⟩ = some (.bool o1) ∧ W.cell? ⟨w.heap.size + 1, 2, none⟩ = some (.int .i64 ct1) ∧ W.cell? ⟨w.heap.size + 1, 3, none⟩ = some (.int .i64 co1) ∧ W.cell? ⟨w.heap.size + 1, 4, none⟩ = some (.int .i64 cp1) ∧ W.cell? ⟨w.heap.size + 1, 5, none⟩ = some (.slice f2 p2 g2) ∧ W.cell? ⟨w.heap.size + 1, 6, none⟩ = some (.int .i64 l1) ∧ W.cell? ⟨w.heap.size + 1, 7, none⟩ = some (.int .i64 lt2) ∧ W.cell? ⟨w.heap.size + 1, 8, none⟩ = some (.int .i64 la2) ∧ W.cell? ⟨w.heap.size + 1, 9, none⟩ = some (.slice h2 q2 i2) := ⟨hSb.cell 0, hSb.cell 1, hSb.cell 2, hSb.cell 3, hSb.cell 4, hSb.cell 5, hSb.cell 6, hSb.cell 7, hSb.cell 8, hSb.cell 9⟩; clear hSa hSb; go_simp); first | done | with_reducible rfl)
    (try simp only [Act.put, List.setIfInBounds_toArray, List.set_cons_zero, List.set_cons_succ])
    refine wpAnyH_take (i := 1) (oi := ⟨some 8, _, _, _, _, _⟩) (v := ?_) rfl (by kernel_rfl) (by kernel_rfl) (by kernel_rfl) (fun _ _ _ h => h) (Or.inl ⟨by rfl, ?hy1⟩) hS0 ?re1
    case hy1 => ((intro W hSw; obtain ⟨hSa, hSb⟩ := hSw; obtain ⟨x0, x1, x2, x3, x4, x5, x6, x7, x8, x9⟩ : W.cell? ⟨w.heap.size, 0, none⟩ = some (.slice a1 n1 c1) ∧ W.cell? ⟨w.heap.size, 1, none⟩ = some (.bool o1) ∧ W.cell? ⟨w.heap.size, 2, none⟩ = some (.int .i64 ct1) ∧ W.cell? ⟨w.heap.size, 3, none⟩ = some (.int .i64 co1) ∧ W.cell? ⟨w.heap.size, 4, none⟩ = some (.int .i64 cp1) ∧ W.cell? ⟨w.heap.size, 5, none⟩ = some (.slice f1 p1 g1) ∧ W.cell? ⟨w.heap.size, 6, none⟩ = some (.int .i64 l1) ∧ W.cell? ⟨w.heap.size, 7, none⟩ = some (.int .i64 lt1) ∧ W.cell? ⟨w.heap.size, 8, none⟩ = some (.int .i64 la1) ∧ W.cell? ⟨w.heap.size, 9, none⟩ = some (.slice h1 q1 i1) := ⟨hSa.cell 0, hSa.cell 1, hSa.cell 2, hSa.cell 3, hSa.cell 4, hSa.cell 5, hSa.cell 6, hSa.cell 7, hSa.cell 8, hSa.cell 9⟩; obtain ⟨y0, y1, y2, y3, y4, y5, y6, y7, y8, y9⟩ : W.cell? ⟨w.heap.size + 1, 0, none⟩ = some (.slice a2 n2 c2) ∧ W.cell? ⟨w.heap.size + 1, 1, none⟩ = some (.bool o1) ∧ W.cell? ⟨w.heap.size + 1, 2, none⟩ = some (.int .i64 ct1) ∧ W.cell? ⟨w.heap.size + 1, 3, none⟩ = some (.int .i64 co1) ∧ W.cell? ⟨w.heap.size + 1, 4, none⟩ = some (.int .i64 cp1) ∧ W.cell? ⟨w.heap.size + 1, 5, none⟩ = some (.slice f2 p2 g2) ∧ W.cell? ⟨w.heap.size + 1, 6, none⟩ = some (.int .i64 l1) ∧ W.cell? ⟨w.heap.size + 1, 7, none⟩ = some (.int .i64 lt2) ∧ W.cell? ⟨w.heap.size + 1, 8, none⟩ = some (.int .i64 la2) ∧ W.cell? ⟨w.heap.size + 1, 9, none⟩ = some (.slice h2 q2 i2) := ⟨hSb.cell 0, hSb.cell 1, hSb.cell 2, hSb.cell 3, hSb.cell 4, hSb.cell 5, hSb.cell 6, hSb.cell 7, hSb.cell 8, hSb.cell 9⟩; clear hSa hSb; go_simp); first | done | with_reducible rfl)
    (try simp only [Act.put, List.setIfInBounds_toArray, List.set_cons_zero, List.set_cons_succ])
    refine wpAnyH_take (i := 3) (oi := ⟨some 10, _, _, _, _, _⟩) (v := ?_) rfl (by kernel_rfl) (by kernel_rfl) (by kernel_rfl) (fun _ _ _ h => h) (Or.inl ⟨by rfl, ?hy3⟩) hS0 ?re3
    case hy3 => ((intro W hSw; obtain ⟨hSa, hSb⟩ := hSw; obtain ⟨x0, x1, x2, x3, x4, x5, x6, x7, x8, x9⟩ : W.cell? ⟨w.heap.size, 0, none⟩ = some (.slice a1 n1 c1) ∧ W.cell? ⟨w.heap.size, 1, none⟩ = some (.bool o1) ∧ W.cell? ⟨w.heap.size, 2, none⟩ = some (.int .i64 ct1) ∧ W.cell? ⟨w.heap.size, 3, none⟩ = some (.int .i64 co1) ∧ W.cell? ⟨w.heap.size, 4, none⟩ = some (.int .i64 cp1) ∧ W.cell? ⟨w.heap.size, 5, none⟩ = some (.slice f1 p1 g1) ∧ W.cell? ⟨w.heap.size, 6, none⟩ = some (.int .i64 l1) ∧ W.cell? ⟨w.heap.size, 7, none⟩ = some (.int .i64 lt1) ∧ W.cell? ⟨w.heap.size, 8, none⟩ = some (.int .i64 la1) ∧ W.cell? ⟨w.heap.size, 9, none⟩ = some (.slice h1 q1 i1) := ⟨hSa.cell 0, hSa.cell 1, hSa.cell 2, hSa.cell 3, hSa.cell 4, hSa.cell 5, hSa.cell 6, hSa.cell 7, hSa.cell 8, hSa.cell 9⟩; obtain ⟨y0, y1, y2, y3, y4, y5, y6, y7, y8, y9⟩ : W.cell? ⟨w.heap.size + 1, 0, none⟩ = some (.slice a2 n2 c2) ∧ W.cell? ⟨w.heap.size + 1, 1, none⟩ = some (.bool o1) ∧ W.cell? ⟨w.heap.size + 1, 2, none⟩ = some (.int .i64 ct1) ∧ W.cell? ⟨w.heap.size + 1, 3, none⟩ = some (.int .i64 co1) ∧ W.cell? ⟨w.heap.size + 1, 4, none⟩ = some (.int .i64 cp1) ∧ W.cell? ⟨w.heap.size + 1, 5, none⟩ = some (.slice f2 p2 g2) ∧ W.cell? ⟨w.heap.size + 1, 6, none⟩ = some (.int .i64 l1) ∧ W.cell? ⟨w.heap.size + 1, 7, none⟩ = some (.int .i64 lt2) ∧ W.cell? ⟨w.heap.size + 1, 8, none⟩ = some (.int .i64 la2) ∧ W.cell? ⟨w.heap.size + 1, 9, none⟩ = some (.slice h2 q2 i2) := ⟨hSb.cell 0, hSb.cell 1, hSb.cell 2, hSb.cell 3, hSb.cell 4, hSb.cell 5, hSb.cell 6, hSb.cell 7, hSb.cell 8, hSb.cell 9⟩; clear hSa hSb; go_simp); first | done | with_reducible rfl)
    (try simp only [Act.put, List.setIfInBounds_toArray, List.set_cons_zero, List.set_cons_succ])
    refine wpAnyH_ready (rs := [4, 5]) (by kernel_rfl) (by simp) ?_
    refine AllReadyH.cons rfl (fun K hK => ?_) (AllReadyH.cons rfl (fun K hK => ?_) AllReadyH.nil)
    · go_simp
      refine hK.out _ _ (HK1.out _) (fun _ => ?_)
      clear hK K
      (try simp only [Act.put, List.setIfInBounds_toArray, List.set_cons_zero, List.set_cons_succ])
      refine wpAnyH_ready (rs := [5]) (by kernel_rfl) (by simp) ?_
      refine AllReadyH.cons rfl (fun K hK => ?_) AllReadyH.nil
      go_simp
      refine hK.out _ _ (HK2.out _ _) (fun _ => ?_)
      clear hK K
      (try simp only [Act.put, List.setIfInBounds_toArray, List.set_cons_zero, List.set_cons_succ])
      refine wpAnyH_ready (rs := [6]) (by kernel_rfl) (by simp) ?_
      refine AllReadyH.cons rfl (fun K hK => ?_) AllReadyH.nil
      go_simp
      refine hK.out _ _ (HK2.out _ _) (fun _ => ?_)
      clear hK K
      (try simp only [Act.put, List.setIfInBounds_toArray, List.set_cons_zero, List.set_cons_succ])
      refine wpAnyH_ready (rs := [7]) (by kernel_rfl) (by simp) ?_
      refine AllReadyH.cons rfl (fun K hK => ?_) AllReadyH.nil
      go_simp
      refine hK.out _ _ (HK2.out _ _) (fun _ => ?_)
      clear hK K
      (try simp only [Act.put, List.setIfInBounds_toArray, List.set_cons_zero, List.set_cons_succ])
      refine wpAnyH_done (by kernel_rfl) ?_ _
      refine NoPanic.normal ?_
      go_wp2_with fail
      go_meet
      exact ⟨_, _, rfl, rfl, (Bk.new W0 _ [_, _, _, _, _, _, _, _, _]).alloc _, Bk.newAt _ _ [_, _, _, _, _, _, _, _, _] (by simp), ((low_alloc _ _).alloc (by simp) _).drew⟩
    · go_simp
      refine hK.out _ _ (HK1.out _) (fun _ => ?_)
      clear hK K
      (try simp only [Act.put, List.setIfInBounds_toArray, List.set_cons_zero, List.set_cons_succ])
      refine wpAnyH_ready (rs := [4]) (by kernel_rfl) (by simp) ?_
      refine AllReadyH.cons rfl (fun K hK => ?_) AllReadyH.nil
      go_simp
      refine hK.out _ _ (HK2.out _ _) (fun _ => ?_)
      clear hK K
      (try simp only [Act.put, List.setIfInBounds_toArray, List.set_cons_zero, List.set_cons_succ])
      refine wpAnyH_ready (rs := [6]) (by kernel_rfl) (by simp) ?_
      refine AllReadyH.cons rfl (fun K hK => ?_) AllReadyH.nil
      go_simp
      refine hK.out _ _ (HK2.out _ _) (fun _ => ?_)
      clear hK K
      (try simp only [Act.put, List.setIfInBounds_toArray, List.set_cons_zero, List.set_cons_succ])
      refine wpAnyH_ready (rs := [7]) (by kernel_rfl) (by simp) ?_
      refine AllReadyH.cons rfl (fun K hK => ?_) AllReadyH.nil
      go_simp
      refine hK.out _ _ (HK2.out _ _) (fun _ => ?_)
      clear hK K
      (try simp only [Act.put, List.setIfInBounds_toArray, List.set_cons_zero, List.set_cons_succ])
      refine wpAnyH_done (by kernel_rfl) ?_ _
      refine NoPanic.normal ?_
      go_wp2_with fail
      go_meet
      exact ⟨_, _, rfl, rfl, Bk.newAt _ _ [_, _, _, _, _, _, _, _, _] (by simp), (Bk.new W0 _ [_, _, _, _, _, _, _, _, _]).alloc _, ((low_alloc _ _).alloc (by simp) _).drew⟩
  case rest =>
    obtain ⟨p, q, rfl, rfl, hp, hq, hb⟩ := hcut
    have hlow := stepAny HL.out hb
    have y0 := (HA.out.below hb HA.out.lt).cell 0
    have z0 := (HB0.out.below hb HB0.out.lt).cell 0
    simp only [List.getElem?_cons_zero] at y0 z0
    obtain ⟨e0, e1, e2, e3, e4, e5, e6, e7, e8⟩ : wc.cell? ⟨p, 0, none⟩ = some (.bool o1) ∧ wc.cell? ⟨p, 1, none⟩ = some (.int .i64 ct1) ∧ wc.cell? ⟨p, 2, none⟩ = some (.int .i64 co1) ∧ wc.cell? ⟨p, 3, none⟩ = some (.int .i64 cp1) ∧ wc.cell? ⟨p, 4, none⟩ = some (.slice f1 p1 g1) ∧ wc.cell? ⟨p, 5, none⟩ = some (.int .i64 l1) ∧ wc.cell? ⟨p, 6, none⟩ = some (.int .i64 lt1) ∧ wc.cell? ⟨p, 7, none⟩ = some (.int .i64 la1) ∧ wc.cell? ⟨p, 8, none⟩ = some (.slice h1 q1 i1) := ⟨hp.cell 0, hp.cell 1, hp.cell 2, hp.cell 3, hp.cell 4, hp.cell 5, hp.cell 6, hp.cell 7, hp.cell 8⟩
    obtain ⟨j0, j1, j2, j3, j4, j5, j6, j7, j8⟩ : wc.cell? ⟨q, 0, none⟩ = some (.bool o1) ∧ wc.cell? ⟨q, 1, none⟩ = some (.int .i64 ct1) ∧ wc.cell? ⟨q, 2, none⟩ = some (.int .i64 co1) ∧ wc.cell? ⟨q, 3, none⟩ = some (.int .i64 cp1) ∧ wc.cell? ⟨q, 4, none⟩ = some (.slice f2 p2 g2) ∧ wc.cell? ⟨q, 5, none⟩ = some (.int .i64 l1) ∧ wc.cell? ⟨q, 6, none⟩ = some (.int .i64 lt2) ∧ wc.cell? ⟨q, 7, none⟩ = some (.int .i64 la2) ∧ wc.cell? ⟨q, 8, none⟩ = some (.slice h2 q2 i2) := ⟨hq.cell 0, hq.cell 1, hq.cell 2, hq.cell 3, hq.cell 4, hq.cell 5, hq.cell 6, hq.cell 7, hq.cell 8⟩
    clear hb hp hq
    iterate 3 (first | go_values | go_skip | go_guarded | go_step | go_upon | go_back)
    simp only [List.append_eq, List.cons_append, List.nil_append]
    go_wp2_with (first | (go_at_call 42; (with_reducible refine (HE.out _ hlow).mono ?_); rintro e w3 ⟨rfl, rfl⟩; dsimp only) | (go_at_call 43; (with_reducible refine (HB.out _ hlow).mono ?_); rintro e w3 ⟨rfl, rfl⟩; dsimp only))
    go_ret
    exact ⟨rfl, hlow⟩

set_option maxRecDepth 100000 in
set_option maxHeartbeats 8000000 in
theorem deq8 (o1 o2 : Bool) (ct1 co1 cp1 l1 lt1 la1 ct2 co2 cp2 l2 lt2 la2 : Int) (a1 f1 h1 a2 f2 h2 : Option Addr) (n1 c1 p1 g1 q1 i1 n2 c2 p2 g2 q2 i2 : Nat) (w : World) (r : Bool) (hne : (la1 == la2) = false)
    (HE : Hid (∀ W, Below w.heap.size w W → Calls Try.prog 42 #[.slice a1 n1 c1, .slice a2 n2 c2, .func (.func 43) #[] #[]] W fun e w' => e = .returned (.bool true) ∧ W = w'))
    (HB : Hid (∀ W, Below w.heap.size w W → Calls Try.prog 43 #[.slice f1 p1 g1, .slice f2 p2 g2] W fun e w' => e = .returned (.bool true) ∧ W = w')) :
    Calls Try.prog 19 #[.agg #[.slice a1 n1 c1, .bool o1, .int .i64 ct1, .int .i64 co1, .int .i64 cp1, .slice f1 p1 g1, .int .i64 l1, .int .i64 lt1, .int .i64 la1, .slice h1 q1 i1], .agg #[.slice a2 n2 c2, .bool o1, .int .i64 ct1, .int .i64 co1, .int .i64 cp1, .slice f2 p2 g2, .int .i64 l1, .int .i64 lt1, .int .i64 la2, .slice h2 q2 i2]] w fun e w' => e = .returned (.bool false) ∧ Below w.heap.size w w' := by
  obtain ⟨W0, hW0⟩ : ∃ W0, W0 = (w.alloc (.cells #[.slice a1 n1 c1, .bool o1, .int .i64 ct1, .int .i64 co1, .int .i64 cp1, .slice f1 p1 g1, .int .i64 l1, .int .i64 lt1, .int .i64 la1, .slice h1 q1 i1] 39 (0, 0))).alloc (.cells #[.slice a2 n2 c2, .bool o1, .int .i64 ct1, .int .i64 co1, .int .i64 cp1, .slice f2 p2 g2, .int .i64 l1, .int .i64 lt1, .int .i64 la2, .slice h2 q2 i2] 39 (0, 0)) := ⟨_, rfl⟩
  have hA : Bk W0 w.heap.size 39 [.slice a1 n1 c1, .bool o1, .int .i64 ct1, .int .i64 co1, .int .i64 cp1, .slice f1 p1 g1, .int .i64 l1, .int .i64 lt1, .int .i64 la1, .slice h1 q1 i1] := by rw [hW0]; exact (Bk.new w _ [_, _, _, _, _, _, _, _, _, _]).alloc _
  have hB : Bk W0 (w.heap.size + 1) 39 [.slice a2 n2 c2, .bool o1, .int .i64 ct1, .int .i64 co1, .int .i64 cp1, .slice f2 p2 g2, .int .i64 l1, .int .i64 lt1, .int .i64 la2, .slice h2 q2 i2] := by rw [hW0]; exact Bk.newAt _ _ [_, _, _, _, _, _, _, _, _, _] (by simp)
  have hL : Below w.heap.size w W0 := by rw [hW0]; exact (low_alloc _ _).alloc (by simp) _
  have hs0 : W0.heap.size = w.heap.size + 1 + 1 := by rw [hW0]; simp
  have HA := Lib.hid hA
  have HB0 := Lib.hid hB
  have HL := Lib.hid hL
  have HS0 := Lib.hid hs0
  clear hA hB hL hs0
  go_enter Try.func19, Try.ntmps19
  go_upto_region 1 with fail
  rw [← hW0]
  clear hW0
  go_cut [5, 6] (fun s5 s6 W' => ∃ p q, s5 = .pointer (some ⟨p, 0, none⟩) ∧ s6 = .pointer (some ⟨q, 0, none⟩) ∧ Bk W' p 37 [.bool o1, .int .i64 ct1, .int .i64 co1, .int .i64 cp1, .slice f1 p1 g1, .int .i64 l1, .int .i64 lt1, .int .i64 la1, .slice h1 q1 i1] ∧ Bk W' q 37 [.bool o1, .int .i64 ct1, .int .i64 co1, .int .i64 cp1, .slice f2 p2 g2, .int .i64 l1, .int .i64 lt1, .int .i64 la2, .slice h2 q2 i2] ∧ Below W0.heap.size W0 W')
  case first =>
    have hS0 : (fun w' => Bk w' w.heap.size 39 [.slice a1 n1 c1, .bool o1, .int .i64 ct1, .int .i64 co1, .int .i64 cp1, .slice f1 p1 g1, .int .i64 l1, .int .i64 lt1, .int .i64 la1, .slice h1 q1 i1] ∧ Bk w' (w.heap.size + 1) 39 [.slice a2 n2 c2, .bool o1, .int .i64 ct1, .int .i64 co1, .int .i64 cp1, .slice f2 p2 g2, .int .i64 l1, .int .i64 lt1, .int .i64 la2, .slice h2 q2 i2]) W0.drew := ⟨HA.out, HB0.out⟩
    have HK1 : Hid (∀ o, Bk (W0.alloc o).drew w.heap.size 39 [.slice a1 n1 c1, .bool o1, .int .i64 ct1, .int .i64 co1, .int .i64 cp1, .slice f1 p1 g1, .int .i64 l1, .int .i64 lt1, .int .i64 la1, .slice h1 q1 i1] ∧ Bk (W0.alloc o).drew (w.heap.size + 1) 39 [.slice a2 n2 c2, .bool o1, .int .i64 ct1, .int .i64 co1, .int .i64 cp1, .slice f2 p2 g2, .int .i64 l1, .int .i64 lt1, .int .i64 la2, .slice h2 q2 i2]) := fun o => ⟨HA.out.alloc o, HB0.out.alloc o⟩
    have HK2 : Hid (∀ o o', Bk ((W0.alloc o).alloc o').drew w.heap.size 39 [.slice a1 n1 c1, .bool o1, .int .i64 ct1, .int .i64 co1, .int .i64 cp1, .slice f1 p1 g1, .int .i64 l1, .int .i64 lt1, .int .i64 la1, .slice h1 q1 i1] ∧ Bk ((W0.alloc o).alloc o').drew (w.heap.size + 1) 39 [.slice a2 n2 c2, .bool o1, .int .i64 ct1, .int .i64 co1, .int .i64 cp1, .slice f2 p2 g2, .int .i64 l1, .int .i64 lt1, .int .i64 la2, .slice h2 q2 i2]) := fun o o' => ⟨(HA.out.alloc o).alloc o', (HB0.out.alloc o).alloc o'⟩
    refine wp_region_noPanic ?_
    refine wp_region_held_drew (S := fun w' => Bk w' w.heap.size 39 [.slice a1 n1 c1, .bool o1, .int .i64 ct1, .int .i64 co1, .int .i64 cp1, .slice f1 p1 g1, .int .i64 l1, .int .i64 lt1, .int .i64 la1, .slice h1 q1 i1] ∧ Bk w' (w.heap.size + 1) 39 [.slice a2 n2 c2, .bool o1, .int .i64 ct1, .int .i64 co1, .int .i64 cp1, .slice f2 p2 g2, .int .i64 l1, .int .i64 lt1, .int .i64 la2, .slice h2 q2 i2]) (by kernel_rfl) hS0 (fun _ => ?_)
    refine wpAnyH_take (i := 0) (oi := ⟨some 7, _, _, _, _, _⟩) (v := ?_) rfl (by kernel_rfl) (by kernel_rfl) (by kernel_rfl) (fun _ _ _ h => h) (Or.inl ⟨by rfl, ?hy0⟩) hS0 ?re0
    case hy0 => ((intro W hSw; obtain ⟨hSa, hSb⟩ := hSw; obtain ⟨x0, x1, x2, x3, x4, x5, x6, x7, x8, x9⟩ : W.cell? ⟨w.heap.size, 0, none⟩ = some (.slice a1 n1 c1) ∧ W.cell? ⟨w.heap.size, 1, none⟩ = some (.bool o1) ∧ W.cell? ⟨w.heap.size, 2, none⟩ = some (.int .i64 ct1) ∧ W.cell? ⟨w.heap.size, 3, none⟩ = some (.int .i64 co1) ∧ W.cell? ⟨w.heap.size, 4, none⟩ = some (.int .i64 cp1) ∧ W.cell? ⟨w.heap.size, 5, none⟩ = some (.slice f1 p1 g1) ∧ W.cell? ⟨w.heap.size, 6, none⟩ = some (.int .i64 l1) ∧ W.cell? ⟨w.heap.size, 7, none⟩ = some (.int .i64 lt1) ∧ W.cell? ⟨w.heap.size, 8, none⟩ = some (.int .i64 la1) ∧ W.cell? ⟨w.heap.size, 9, none⟩ = some (.slice h1 q1 i1) := ⟨hSa.cell 0, hSa.cell 1, hSa.cell 2, hSa.cell 3, hSa.cell 4, hSa.cell 5, hSa.cell 6, hSa.cell 7, hSa.cell 8, hSa.cell 9⟩; obtain ⟨y0, y1, y2, y3, y4, y5, y6, y7, y8, y9⟩ : W.cell? ⟨w.heap.size + 1, 0, none⟩ = some (.slice a2 n2 c2) ∧ W.cell? ⟨w.heap.size + 1, 1, none⟩ = some (.bool o1) ∧ W.cell? ⟨w.heap.size + 1, 2, none⟩ = some (.int .i64 ct1) ∧ W.cell? ⟨w.heap.size + 1, 3, none⟩ = some (.int .i64 co1) ∧ W.cell? ⟨w.heap.size + 1, 4, none⟩ = some (.int .i64 cp1) ∧ W.cell? ⟨w.heap.size + 1, 5, none⟩ = some (.slice f2 p2 g2) ∧ W.cell? ⟨w.heap.size + 1, 6, none⟩ = some (.int .i64 l1) ∧ W.cell? ⟨w.heap.size + 1, 7, none⟩ = some (.int .i64 lt1) ∧ W.cell? ⟨w.heap.size + 1, 8, none⟩ = some (.int .i64 la2) ∧ W.cell? ⟨w.heap.size + 1, 9, none⟩ = some (.slice h2 q2 i2) := ⟨hSb.cell 0, hSb.cell 1, hSb.cell 2, hSb.cell 3, hSb.cell 4, hSb.cell 5, hSb.cell 6, hSb.cell 7, hSb.cell 8, hSb.cell 9⟩; clear hSa hSb; go_simp); first | done | with_reducible rfl)
    (try simp only [Act.put, List.setIfInBounds_toArray, List.set_cons_zero, List.set_cons_succ])
    refine wpAnyH_take (i := 2) (oi := ⟨some 9, _, _, _, _, _⟩) (v := ?_) rfl (by kernel_rfl) (by kernel_rfl) (by kernel_rfl) (fun _ _ _ h => h) (Or.inl ⟨by rfl, ?hy2⟩) hS0 ?re2
    case hy2 => ((intro W hSw; obtain ⟨hSa, hSb⟩ := hSw; obtain ⟨x0, x1, x2, x3, x4, x5, x6, x7, x8, x9⟩ : W.cell? ⟨w.heap.size, 0, none⟩ = some (.slice a1 n1 c1) ∧ W.cell? ⟨w.heap.size, 1, none⟩ = some (.bool o1) ∧ W.cell? ⟨w.heap.size, 2, none⟩ = some (.int .i64 ct1) ∧ W.cell? ⟨w.heap.size, 3, none⟩ = some (.int .i64 co1) ∧ W.cell? ⟨w.heap.size, 4, none⟩ = some (.int .i64 cp1) ∧ W.cell? ⟨w.heap.size, 5, none⟩ = some (.slice f1 p1 g1) ∧ W.cell? ⟨w.heap.size, 6, none⟩ = some (.int .i64 l1) ∧ W.cell? ⟨w.heap.size, 7, none⟩ = some (.int .i64 lt1) ∧ W.cell? ⟨w.heap.size, 8, none⟩ = some (.int .i64 la1) ∧ W.cell? ⟨w.heap.size, 9, none⟩ = some (.slice h1 q1 i1) := ⟨hSa.cell 0, hSa.cell 1, hSa.cell 2, hSa.cell 3, hSa.cell 4, hSa.cell 5, hSa.cell 6, hSa.cell 7, hSa.cell 8, hSa.cell 9⟩; obtain ⟨y0, y1, y2, y3, y4, y5, y6, y7, y8, y9⟩ : W.cell? ⟨w.heap.size + 1, 0, none⟩ = some (.slice a2 n2 c2) ∧ W.cell? ⟨w.heap.size + 1, 1, none⟩ = some (.bool o1) ∧ W.cell? ⟨w.heap.size + 1, 2, none⟩ = some (.int .i64 ct1) ∧ W.cell? ⟨w.heap.size + 1, 3, none⟩ = some (.int .i64 co1) ∧ W.cell? ⟨w.heap.size + 1, 4, none⟩ = some (.int .i64 cp1) ∧ W.cell? ⟨w.heap.size + 1, 5, none⟩ = some (.slice f2 p2 g2) ∧ W.cell? ⟨w.heap.size + 1, 6, none⟩ = some (.int .i64 l1) ∧ W.cell? ⟨w.heap.size + 1, 7, none⟩ = some (.int .i64 lt1) ∧ W.cell? ⟨w.heap.size + 1, 8, none⟩ = some (.int .i64 la2) ∧ W.cell? ⟨w.heap.size + 1, 9, none⟩ = some (.slice h2 q2 i2) := ⟨hSb.cell 0, hSb.cell 1, hSb.cell 2, hSb.cell 3, hSb.cell 4, hSb.cell 5, hSb.cell 6, hSb.cell 7, hSb.cell 8, hSb.cell 9⟩; clear hSa hSb; go_simp); first | done | with_reducible rfl)
    (try simp only [Act.put, List.setIfInBounds_toArray, List.set_cons_zero, List.set_cons_succ])
    refine wpAnyH_take (i := 1) (oi := ⟨some 8, _, _, _, _, _⟩) (v := ?_) rfl (by kernel_rfl) (by kernel_rfl) (by kernel_rfl) (fun _ _ _ h => h) (Or.inl ⟨by rfl, ?hy1⟩) hS0 ?re1
    case hy1 => ((intro W hSw; obtain ⟨hSa, hSb⟩ := hSw; obtain ⟨x0, x1, x2, x3, x4, x5, x6, x7, x8, x9⟩ : W.cell? ⟨w.heap.size, 0, none⟩ = some (.slice a1 n1 c1) ∧ W.cell? ⟨w.heap.size, 1, none⟩ = some (.bool o1) ∧ W.cell? ⟨w.heap.size, 2, none⟩ = some (.int .i64 ct1) ∧ W.cell? ⟨w.heap.size, 3, none⟩ = some (.int .i64 co1) ∧ W.cell? ⟨w.heap.size, 4, none⟩ = some (.int .i64 cp1) ∧ W.cell? ⟨w.heap.size, 5, none⟩ = some (.slice f1 p1 g1) ∧ W.cell? ⟨w.heap.size, 6, none⟩ = some (.int .i64 l1) ∧ W.cell? ⟨w.heap.size, 7, none⟩ = some (.int .i64 lt1) ∧ W.cell? ⟨w.heap.size, 8, none⟩ = some (.int .i64 la1) ∧ W.cell? ⟨w.heap.size, 9, none⟩ = some (.slice h1 q1 i1) := ⟨hSa.cell 0, hSa.cell 1, hSa.cell 2, hSa.cell 3, hSa.cell 4, hSa.cell 5, hSa.cell 6, hSa.cell 7, hSa.cell 8, hSa.cell 9⟩; obtain ⟨y0, y1, y2, y3, y4, y5, y6, y7, y8, y9⟩ : W.cell? ⟨w.heap.size + 1, 0, none⟩ = some (.slice a2 n2 c2) ∧ W.cell? ⟨w.heap.size + 1, 1, none⟩ = some (.bool o1) ∧ W.cell? ⟨w.heap.size + 1, 2, none⟩ = some (.int .i64 ct1) ∧ W.cell? ⟨w.heap.size + 1, 3, none⟩ = some (.int .i64 co1) ∧ W.cell? ⟨w.heap.size + 1, 4, none⟩ = some (.int .i64 cp1) ∧ W.cell? ⟨w.heap.size + 1, 5, none⟩ = some (.slice f2 p2 g2) ∧ W.cell? ⟨w.heap.size + 1, 6, none⟩ = some (.int .i64 l1) ∧ W.cell? ⟨w.heap.size + 1, 7, none⟩ = some (.int .i64 lt1) ∧ W.cell? ⟨w.heap.size + 1, 8, none⟩ = some (.int .i64 la2) ∧ W.cell? ⟨w.heap.size + 1, 9, none⟩ = some (.slice h2 q2 i2) := ⟨hSb.cell 0, hSb.cell 1, hSb.cell 2, hSb.cell 3, hSb.cell 4, hSb.cell 5, hSb.cell 6, hSb.cell 7, hSb.cell 8, hSb.cell 9⟩; clear hSa hSb; go_simp); first | done | with_reducible rfl)
    (try simp only [Act.put, List.setIfInBounds_toArray, List.set_cons_zero, List.set_cons_succ])
    refine wpAnyH_take (i := 3) (oi := ⟨some 10, _, _, _, _, _⟩) (v := ?_) rfl (by kernel_rfl) (by kernel_rfl) (by kernel_rfl) (fun _ _ _ h => h) (Or.inl ⟨by rfl, ?hy3⟩) hS0 ?re3
    case hy3 => ((intro W hSw; obtain ⟨hSa, hSb⟩ := hSw; obtain ⟨x0, x1, x2, x3, x4, x5, x6, x7, x8, x9⟩ : W.cell? ⟨w.heap.size, 0, none⟩ = some (.slice a1 n1 c1) ∧ W.cell? ⟨w.heap.size, 1, none⟩ = some (.bool o1) ∧ W.cell? ⟨w.heap.size, 2, none⟩ = some (.int .i64 ct1) ∧ W.cell? ⟨w.heap.size, 3, none⟩ = some (.int .i64 co1) ∧ W.cell? ⟨w.heap.size, 4, none⟩ = some (.int .i64 cp1) ∧ W.cell? ⟨w.heap.size, 5, none⟩ = some (.slice f1 p1 g1) ∧ W.cell? ⟨w.heap.size, 6, none⟩ = some (.int .i64 l1) ∧ W.cell? ⟨w.heap.size, 7, none⟩ = some (.int .i64 lt1) ∧ W.cell? ⟨w.heap.size, 8, none⟩ = some (.int .i64 la1) ∧ W.cell? ⟨w.heap.size, 9, none⟩ = some (.slice h1 q1 i1) := ⟨hSa.cell 0, hSa.cell 1, hSa.cell 2, hSa.cell 3, hSa.cell 4, hSa.cell 5, hSa.cell 6, hSa.cell 7, hSa.cell 8, hSa.cell 9⟩; obtain ⟨y0, y1, y2, y3, y4, y5, y6, y7, y8, y9⟩ : W.cell? ⟨w.heap.size + 1, 0, none⟩ = some (.slice a2 n2 c2) ∧ W.cell? ⟨w.heap.size + 1, 1, none⟩ = some (.bool o1) ∧ W.cell? ⟨w.heap.size + 1, 2, none⟩ = some (.int .i64 ct1) ∧ W.cell? ⟨w.heap.size + 1, 3, none⟩ = some (.int .i64 co1) ∧ W.cell? ⟨w.heap.size + 1, 4, none⟩ = some (.int .i64 cp1) ∧ W.cell? ⟨w.heap.size + 1, 5, none⟩ = some (.slice f2 p2 g2) ∧ W.cell? ⟨w.heap.size + 1, 6, none⟩ = some (.int .i64 l1) ∧ W.cell? ⟨w.heap.size + 1, 7, none⟩ = some (.int .i64 lt1) ∧ W.cell? ⟨w.heap.size + 1, 8, none⟩ = some (.int .i64 la2) ∧ W.cell? ⟨w.heap.size + 1, 9, none⟩ = some (.slice h2 q2 i2) := ⟨hSb.cell 0, hSb.cell 1, hSb.cell 2, hSb.cell 3, hSb.cell 4, hSb.cell 5, hSb.cell 6, hSb.cell 7, hSb.cell 8, hSb.cell 9⟩; clear hSa hSb; go_simp); first | done | with_reducible rfl)
    (try simp only [Act.put, List.setIfInBounds_toArray, List.set_cons_zero, List.set_cons_succ])
    refine wpAnyH_ready (rs := [4, 5]) (by kernel_rfl) (by simp) ?_
    refine AllReadyH.cons rfl (fun K hK => ?_) (AllReadyH.cons rfl (fun K hK => ?_) AllReadyH.nil)
    · go_simp
      refine hK.out _ _ (HK1.out _) (fun _ => ?_)
      clear hK K
      (try simp only [Act.put, List.setIfInBounds_toArray, List.set_cons_zero, List.set_cons_succ])
      refine wpAnyH_ready (rs := [5]) (by kernel_rfl) (by simp) ?_
      refine AllReadyH.cons rfl (fun K hK => ?_) AllReadyH.nil
      go_simp
      refine hK.out _ _ (HK2.out _ _) (fun _ => ?_)
      clear hK K
      (try simp only [Act.put, List.setIfInBounds_toArray, List.set_cons_zero, List.set_cons_succ])
      refine wpAnyH_ready (rs := [6]) (by kernel_rfl) (by simp) ?_
      refine AllReadyH.cons rfl (fun K hK => ?_) AllReadyH.nil
      go_simp
      refine hK.out _ _ (HK2.out _ _) (fun _ => ?_)
      clear hK K
      (try simp only [Act.put, List.setIfInBounds_toArray, List.set_cons_zero, List.set_cons_succ])
      refine wpAnyH_ready (rs := [7]) (by kernel_rfl) (by simp) ?_
      refine AllReadyH.cons rfl (fun K hK => ?_) AllReadyH.nil
      go_simp
      refine hK.out _ _ (HK2.out _ _) (fun _ => ?_)
      clear hK K
      (try simp only [Act.put, List.setIfInBounds_toArray, List.set_cons_zero, List.set_cons_succ])
      refine wpAnyH_done (by kernel_rfl) ?_ _
      refine NoPanic.normal ?_
      go_wp2_with fail
      go_meet
      exact ⟨_, _, rfl, rfl, (Bk.new W0 _ [_, _, _, _, _, _, _, _, _]).alloc _, Bk.newAt _ _ [_, _, _, _, _, _, _, _, _] (by simp), ((low_alloc _ _).alloc (by simp) _).drew⟩
    · go_simp
      refine hK.out _ _ (HK1.out _) (fun _ => ?_)
      clear hK K
      (try simp only [Act.put, List.setIfInBounds_toArray, List.set_cons_zero, List.set_cons_succ])
      refine wpAnyH_ready (rs := [4]) (by kernel_rfl) (by simp) ?_
      refine AllReadyH.cons rfl (fun K hK => ?_) AllReadyH.nil
      go_simp
      refine hK.out _ _ (HK2.out _ _) (fun _ => ?_)
      clear hK K
      (try simp only [Act.put, List.setIfInBounds_toArray, List.set_cons_zero, List.set_cons_succ])
      refine wpAnyH_ready (rs := [6]) (by kernel_rfl) (by simp) ?_
      refine AllReadyH.cons rfl (fun K hK => ?_) AllReadyH.nil
      go_simp
      refine hK.out _ _ (HK2.out _ _) (fun _ => ?_)
      clear hK K
      (try simp only [Act.put, List.setIfInBounds_toArray, List.set_cons_zero, List.set_cons_succ])
      refine wpAnyH_ready (rs := [7]) (by kernel_rfl) (by simp) ?_
      refine AllReadyH.cons rfl (fun K hK => ?_) AllReadyH.nil
      go_simp
      refine hK.out _ _ (HK2.out _ _) (fun _ => ?_)
      clear hK K
      (try simp only [Act.put, List.setIfInBounds_toArray, List.set_cons_zero, List.set_cons_succ])
      refine wpAnyH_done (by kernel_rfl) ?_ _
      refine NoPanic.normal ?_
      go_wp2_with fail
      go_meet
      exact ⟨_, _, rfl, rfl, Bk.newAt _ _ [_, _, _, _, _, _, _, _, _] (by simp), (Bk.new W0 _ [_, _, _, _, _, _, _, _, _]).alloc _, ((low_alloc _ _).alloc (by simp) _).drew⟩
  case rest =>
    obtain ⟨p, q, rfl, rfl, hp, hq, hb⟩ := hcut
    have hlow := stepAny HL.out hb
    have y0 := (HA.out.below hb HA.out.lt).cell 0
    have z0 := (HB0.out.below hb HB0.out.lt).cell 0
    simp only [List.getElem?_cons_zero] at y0 z0
    obtain ⟨e0, e1, e2, e3, e4, e5, e6, e7, e8⟩ : wc.cell? ⟨p, 0, none⟩ = some (.bool o1) ∧ wc.cell? ⟨p, 1, none⟩ = some (.int .i64 ct1) ∧ wc.cell? ⟨p, 2, none⟩ = some (.int .i64 co1) ∧ wc.cell? ⟨p, 3, none⟩ = some (.int .i64 cp1) ∧ wc.cell? ⟨p, 4, none⟩ = some (.slice f1 p1 g1) ∧ wc.cell? ⟨p, 5, none⟩ = some (.int .i64 l1) ∧ wc.cell? ⟨p, 6, none⟩ = some (.int .i64 lt1) ∧ wc.cell? ⟨p, 7, none⟩ = some (.int .i64 la1) ∧ wc.cell? ⟨p, 8, none⟩ = some (.slice h1 q1 i1) := ⟨hp.cell 0, hp.cell 1, hp.cell 2, hp.cell 3, hp.cell 4, hp.cell 5, hp.cell 6, hp.cell 7, hp.cell 8⟩
    obtain ⟨j0, j1, j2, j3, j4, j5, j6, j7, j8⟩ : wc.cell? ⟨q, 0, none⟩ = some (.bool o1) ∧ wc.cell? ⟨q, 1, none⟩ = some (.int .i64 ct1) ∧ wc.cell? ⟨q, 2, none⟩ = some (.int .i64 co1) ∧ wc.cell? ⟨q, 3, none⟩ = some (.int .i64 cp1) ∧ wc.cell? ⟨q, 4, none⟩ = some (.slice f2 p2 g2) ∧ wc.cell? ⟨q, 5, none⟩ = some (.int .i64 l1) ∧ wc.cell? ⟨q, 6, none⟩ = some (.int .i64 lt1) ∧ wc.cell? ⟨q, 7, none⟩ = some (.int .i64 la2) ∧ wc.cell? ⟨q, 8, none⟩ = some (.slice h2 q2 i2) := ⟨hq.cell 0, hq.cell 1, hq.cell 2, hq.cell 3, hq.cell 4, hq.cell 5, hq.cell 6, hq.cell 7, hq.cell 8⟩
    clear hb hp hq
    iterate 3 (first | go_values | go_skip | go_guarded | go_step | go_upon | go_back)
    simp only [List.append_eq, List.cons_append, List.nil_append]
    go_wp2_with (first | (go_at_call 42; (with_reducible refine (HE.out _ hlow).mono ?_); rintro e w3 ⟨rfl, rfl⟩; dsimp only) | (go_at_call 43; (with_reducible refine (HB.out _ hlow).mono ?_); rintro e w3 ⟨rfl, rfl⟩; dsimp only))
    go_ret
    exact ⟨rfl, hlow⟩

set_option maxRecDepth 100000 in
set_option maxHeartbeats 8000000 in
theorem deq9 (o1 o2 : Bool) (ct1 co1 cp1 l1 lt1 la1 ct2 co2 cp2 l2 lt2 la2 : Int) (a1 f1 h1 a2 f2 h2 : Option Addr) (n1 c1 p1 g1 q1 i1 n2 c2 p2 g2 q2 i2 : Nat) (w : World) (r : Bool)
    (HE : Hid (∀ W, Below w.heap.size w W → Calls Try.prog 42 #[.slice a1 n1 c1, .slice a2 n2 c2, .func (.func 43) #[] #[]] W fun e w' => e = .returned (.bool true) ∧ W = w'))
    (HB : Hid (∀ W, Below w.heap.size w W → Calls Try.prog 43 #[.slice f1 p1 g1, .slice f2 p2 g2] W fun e w' => e = .returned (.bool true) ∧ W = w'))
    (HC : Hid (∀ W, Below w.heap.size w W → Calls Try.prog 43 #[.slice h1 q1 i1, .slice h2 q2 i2] W fun e w' => e = .returned (.bool r) ∧ W = w')) :
    Calls Try.prog 19 #[.agg #[.slice a1 n1 c1, .bool o1, .int .i64 ct1, .int .i64 co1, .int .i64 cp1, .slice f1 p1 g1, .int .i64 l1, .int .i64 lt1, .int .i64 la1, .slice h1 q1 i1], .agg #[.slice a2 n2 c2, .bool o1, .int .i64 ct1, .int .i64 co1, .int .i64 cp1, .slice f2 p2 g2, .int .i64 l1, .int .i64 lt1, .int .i64 la1, .slice h2 q2 i2]] w fun e w' => e = .returned (.bool r) ∧ Below w.heap.size w w' := by
  obtain ⟨W0, hW0⟩ : ∃ W0, W0 = (w.alloc (.cells #[.slice a1 n1 c1, .bool o1, .int .i64 ct1, .int .i64 co1, .int .i64 cp1, .slice f1 p1 g1, .int .i64 l1, .int .i64 lt1, .int .i64 la1, .slice h1 q1 i1] 39 (0, 0))).alloc (.cells #[.slice a2 n2 c2, .bool o1, .int .i64 ct1, .int .i64 co1, .int .i64 cp1, .slice f2 p2 g2, .int .i64 l1, .int .i64 lt1, .int .i64 la1, .slice h2 q2 i2] 39 (0, 0)) := ⟨_, rfl⟩
  have hA : Bk W0 w.heap.size 39 [.slice a1 n1 c1, .bool o1, .int .i64 ct1, .int .i64 co1, .int .i64 cp1, .slice f1 p1 g1, .int .i64 l1, .int .i64 lt1, .int .i64 la1, .slice h1 q1 i1] := by rw [hW0]; exact (Bk.new w _ [_, _, _, _, _, _, _, _, _, _]).alloc _
  have hB : Bk W0 (w.heap.size + 1) 39 [.slice a2 n2 c2, .bool o1, .int .i64 ct1, .int .i64 co1, .int .i64 cp1, .slice f2 p2 g2, .int .i64 l1, .int .i64 lt1, .int .i64 la1, .slice h2 q2 i2] := by rw [hW0]; exact Bk.newAt _ _ [_, _, _, _, _, _, _, _, _, _] (by simp)
  have hL : Below w.heap.size w W0 := by rw [hW0]; exact (low_alloc _ _).alloc (by simp) _
  have hs0 : W0.heap.size = w.heap.size + 1 + 1 := by rw [hW0]; simp
  have HA := Lib.hid hA
  have HB0 := Lib.hid hB
  have HL := Lib.hid hL
  have HS0 := Lib.hid hs0
  clear hA hB hL hs0
  go_enter Try.func19, Try.ntmps19
  go_upto_region 1 with fail
  rw [← hW0]
  clear hW0
  go_cut [5, 6] (fun s5 s6 W' => ∃ p q, s5 = .pointer (some ⟨p, 0, none⟩) ∧ s6 = .pointer (some ⟨q, 0, none⟩) ∧ Bk W' p 37 [.bool o1, .int .i64 ct1, .int .i64 co1, .int .i64 cp1, .slice f1 p1 g1, .int .i64 l1, .int .i64 lt1, .int .i64 la1, .slice h1 q1 i1] ∧ Bk W' q 37 [.bool o1, .int .i64 ct1, .int .i64 co1, .int .i64 cp1, .slice f2 p2 g2, .int .i64 l1, .int .i64 lt1, .int .i64 la1, .slice h2 q2 i2] ∧ Below W0.heap.size W0 W')
  case first =>
    have hS0 : (fun w' => Bk w' w.heap.size 39 [.slice a1 n1 c1, .bool o1, .int .i64 ct1, .int .i64 co1, .int .i64 cp1, .slice f1 p1 g1, .int .i64 l1, .int .i64 lt1, .int .i64 la1, .slice h1 q1 i1] ∧ Bk w' (w.heap.size + 1) 39 [.slice a2 n2 c2, .bool o1, .int .i64 ct1, .int .i64 co1, .int .i64 cp1, .slice f2 p2 g2, .int .i64 l1, .int .i64 lt1, .int .i64 la1, .slice h2 q2 i2]) W0.drew := ⟨HA.out, HB0.out⟩
    have HK1 : Hid (∀ o, Bk (W0.alloc o).drew w.heap.size 39 [.slice a1 n1 c1, .bool o1, .int .i64 ct1, .int .i64 co1, .int .i64 cp1, .slice f1 p1 g1, .int .i64 l1, .int .i64 lt1, .int .i64 la1, .slice h1 q1 i1] ∧ Bk (W0.alloc o).drew (w.heap.size + 1) 39 [.slice a2 n2 c2, .bool o1, .int .i64 ct1, .int .i64 co1, .int .i64 cp1, .slice f2 p2 g2, .int .i64 l1, .int .i64 lt1, .int .i64 la1, .slice h2 q2 i2]) := fun o => ⟨HA.out.alloc o, HB0.out.alloc o⟩
    have HK2 : Hid (∀ o o', Bk ((W0.alloc o).alloc o').drew w.heap.size 39 [.slice a1 n1 c1, .bool o1, .int .i64 ct1, .int .i64 co1, .int .i64 cp1, .slice f1 p1 g1, .int .i64 l1, .int .i64 lt1, .int .i64 la1, .slice h1 q1 i1] ∧ Bk ((W0.alloc o).alloc o').drew (w.heap.size + 1) 39 [.slice a2 n2 c2, .bool o1, .int .i64 ct1, .int .i64 co1, .int .i64 cp1, .slice f2 p2 g2, .int .i64 l1, .int .i64 lt1, .int .i64 la1, .slice h2 q2 i2]) := fun o o' => ⟨(HA.out.alloc o).alloc o', (HB0.out.alloc o).alloc o'⟩
    refine wp_region_noPanic ?_
    refine wp_region_held_drew (S := fun w' => Bk w' w.heap.size 39 [.slice a1 n1 c1, .bool o1, .int .i64 ct1, .int .i64 co1, .int .i64 cp1, .slice f1 p1 g1, .int .i64 l1, .int .i64 lt1, .int .i64 la1, .slice h1 q1 i1] ∧ Bk w' (w.heap.size + 1) 39 [.slice a2 n2 c2, .bool o1, .int .i64 ct1, .int .i64 co1, .int .i64 cp1, .slice f2 p2 g2, .int .i64 l1, .int .i64 lt1, .int .i64 la1, .slice h2 q2 i2]) (by kernel_rfl) hS0 (fun _ => ?_)
    refine wpAnyH_take (i := 0) (oi := ⟨some 7, _, _, _, _, _⟩) (v := ?_) rfl (by kernel_rfl) (by kernel_rfl) (by kernel_rfl) (fun _ _ _ h => h) (Or.inl ⟨by rfl, ?hy0⟩) hS0 ?re0
    case hy0 => ((intro W hSw; obtain ⟨hSa, hSb⟩ := hSw; obtain ⟨x0, x1, x2, x3, x4, x5, x6, x7, x8, x9⟩ : W.cell? ⟨w.heap.size, 0, none⟩ = some (.slice a1 n1 c1) ∧ W.cell? ⟨w.heap.size, 1, none⟩ = some (.bool o1) ∧ W.cell? ⟨w.heap.size, 2, none⟩ = some (.int .i64 ct1) ∧ W.cell? ⟨w.heap.size, 3, none⟩ = some (.int .i64 co1) ∧ W.cell? ⟨w.heap.size, 4, none⟩ = some (.int .i64 cp1) ∧ W.cell? ⟨w.heap.size, 5, none⟩ = some (.slice f1 p1 g1) ∧ W.cell? ⟨w.heap.size, 6, none⟩ = some (.int .i64 l1) ∧ W.cell? ⟨w.heap.size, 7, none⟩ = some (.int .i64 lt1) ∧ W.cell? ⟨w.heap.size, 8, none⟩ = some (.int .i64 la1) ∧ W.cell? ⟨w.heap.size, 9, none⟩ = some (.slice h1 q1 i1) := ⟨hSa.cell 0, hSa.cell 1, hSa.cell 2, hSa.cell 3, hSa.cell 4, hSa.cell 5, hSa.cell 6, hSa.cell 7, hSa.cell 8, hSa.cell 9⟩; obtain ⟨y0, y1, y2, y3, y4, y5, y6, y7, y8, y9⟩ : W.cell? ⟨w.heap.size + 1, 0, none⟩ = some (.slice a2 n2 c2) ∧ W.cell? ⟨w.heap.size + 1, 1, none⟩ = some (.bool o1) ∧ W.cell? ⟨w.heap.size + 1, 2, none⟩ = some (.int .i64 ct1) ∧ W.cell? ⟨w.heap.size + 1, 3, none⟩ = some (.int .i64 co1) ∧ W.cell? ⟨w.heap.size + 1, 4, none⟩ = some (.int .i64 cp1) ∧ W.cell? ⟨w.heap.size + 1, 5, none⟩ = some (.slice f2 p2 g2) ∧ W.cell? ⟨w.heap.size + 1, 6, none⟩ = some (.int .i64 l1) ∧ W.cell? ⟨w.heap.size + 1, 7, none⟩ = some (.int .i64 lt1) ∧ W.cell? ⟨w.heap.size + 1, 8, none⟩ = some (.int .i64 la1) ∧ W.cell? ⟨w.heap.size + 1, 9, none⟩ = some (.slice h2 q2 i2) := ⟨hSb.cell 0, hSb.cell 1, hSb.cell 2, hSb.cell 3, hSb.cell 4, hSb.cell 5, hSb.cell 6, hSb.cell 7, hSb.cell 8, hSb.cell 9⟩; clear hSa hSb; go_simp); first | done | with_reducible rfl)
    (try simp only [Act.put, List.setIfInBounds_toArray, List.set_cons_zero, List.set_cons_succ])
    refine wpAnyH_take (i := 2) (oi := ⟨some 9, _, _, _, _, _⟩) (v := ?_) rfl (by kernel_rfl) (by kernel_rfl) (by kernel_rfl) (fun _ _ _ h => h) (Or.inl ⟨by rfl, ?hy2⟩) hS0 ?re2
    case hy2 => ((intro W hSw; obtain ⟨hSa, hSb⟩ := hSw; obtain ⟨x0, x1, x2, x3, x4, x5, x6, x7, x8, x9⟩ : W.cell? ⟨w.heap.size, 0, none⟩ = some (.slice a1 n1 c1) ∧ W.cell? ⟨w.heap.size, 1, none⟩ = some (.bool o1) ∧ W.cell? ⟨w.heap.size, 2, none⟩ = some (.int .i64 ct1) ∧ W.cell? ⟨w.heap.size, 3, none⟩ = some (.int .i64 co1) ∧ W.cell? ⟨w.heap.size, 4, none⟩ = some (.int .i64 cp1) ∧ W.cell? ⟨w.heap.size, 5, none⟩ = some (.slice f1 p1 g1) ∧ W.cell? ⟨w.heap.size, 6, none⟩ = some (.int .i64 l1) ∧ W.cell? ⟨w.heap.size, 7, none⟩ = some (.int .i64 lt1) ∧ W.cell? ⟨w.heap.size, 8, none⟩ = some (.int .i64 la1) ∧ W.cell? ⟨w.heap.size, 9, none⟩ = some (.slice h1 q1 i1) := ⟨hSa.cell 0, hSa.cell 1, hSa.cell 2, hSa.cell 3, hSa.cell 4, hSa.cell 5, hSa.cell 6, hSa.cell 7, hSa.cell 8, hSa.cell 9⟩; obtain ⟨y0, y1, y2, y3, y4, y5, y6, y7, y8, y9⟩ : W.cell? ⟨w.heap.size + 1, 0, none⟩ = some (.slice a2 n2 c2) ∧ W.cell? ⟨w.heap.size + 1, 1, none⟩ = some (.bool o1) ∧ W.cell? ⟨w.heap.size + 1, 2, none⟩ = some (.int .i64 ct1) ∧ W.cell? ⟨w.heap.size + 1, 3, none⟩ = some (.int .i64 co1) ∧ W.cell? ⟨w.heap.size + 1, 4, none⟩ = some (.int .i64 cp1) ∧ W.cell? ⟨w.heap.size + 1, 5, none⟩ = some (.slice f2 p2 g2) ∧ W.cell? ⟨w.heap.size + 1, 6, none⟩ = some (.int .i64 l1) ∧ W.cell? ⟨w.heap.size + 1, 7, none⟩ = some (.int .i64 lt1) ∧ W.cell? ⟨w.heap.size + 1, 8, none⟩ = some (.int .i64 la1) ∧ W.cell? ⟨w.heap.size + 1, 9, none⟩ = some (.slice h2 q2 i2) := ⟨hSb.cell 0, hSb.cell 1, hSb.cell 2, hSb.cell 3, hSb.cell 4, hSb.cell 5, hSb.cell 6, hSb.cell 7, hSb.cell 8, hSb.cell 9⟩; clear hSa hSb; go_simp); first | done | with_reducible rfl)
    (try simp only [Act.put, List.setIfInBounds_toArray, List.set_cons_zero, List.set_cons_succ])
    refine wpAnyH_take (i := 1) (oi := ⟨some 8, _, _, _, _, _⟩) (v := ?_) rfl (by kernel_rfl) (by kernel_rfl) (by kernel_rfl) (fun _ _ _ h => h) (Or.inl ⟨by rfl, ?hy1⟩) hS0 ?re1
    case hy1 => ((intro W hSw; obtain ⟨hSa, hSb⟩ := hSw; obtain ⟨x0, x1, x2, x3, x4, x5, x6, x7, x8, x9⟩ : W.cell? ⟨w.heap.size, 0, none⟩ = some (.slice a1 n1 c1) ∧ W.cell? ⟨w.heap.size, 1, none⟩ = some (.bool o1) ∧ W.cell? ⟨w.heap.size, 2, none⟩ = some (.int .i64 ct1) ∧ W.cell? ⟨w.heap.size, 3, none⟩ = some (.int .i64 co1) ∧ W.cell? ⟨w.heap.size, 4, none⟩ = some (.int .i64 cp1) ∧ W.cell? ⟨w.heap.size, 5, none⟩ = some (.slice f1 p1 g1) ∧ W.cell? ⟨w.heap.size, 6, none⟩ = some (.int .i64 l1) ∧ W.cell? ⟨w.heap.size, 7, none⟩ = some (.int .i64 lt1) ∧ W.cell? ⟨w.heap.size, 8, none⟩ = some (.int .i64 la1) ∧ W.cell? ⟨w.heap.size, 9, none⟩ = some (.slice h1 q1 i1) := ⟨hSa.cell 0, hSa.cell 1, hSa.cell 2, hSa.cell 3, hSa.cell 4, hSa.cell 5, hSa.cell 6, hSa.cell 7, hSa.cell 8, hSa.cell 9⟩; obtain ⟨y0, y1, y2, y3, y4, y5, y6, y7, y8, y9⟩ : W.cell? ⟨w.heap.size + 1, 0, none⟩ = some (.slice a2 n2 c2) ∧ W.cell? ⟨w.heap.size + 1, 1, none⟩ = some (.bool o1) ∧ W.cell? ⟨w.heap.size + 1, 2, none⟩ = some (.int .i64 ct1) ∧ W.cell? ⟨w.heap.size + 1, 3, none⟩ = some (.int .i64 co1) ∧ W.cell? ⟨w.heap.size + 1, 4, none⟩ = some (.int .i64 cp1) ∧ W.cell? ⟨w.heap.size + 1, 5, none⟩ = some (.slice f2 p2 g2) ∧ W.cell? ⟨w.heap.size + 1, 6, none⟩ = some (.int .i64 l1) ∧ W.cell? ⟨w.heap.size + 1, 7, none⟩ = some (.int .i64 lt1) ∧ W.cell? ⟨w.heap.size + 1, 8, none⟩ = some (.int .i64 la1) ∧ W.cell? ⟨w.heap.size + 1, 9, none⟩ = some (.slice h2 q2 i2) := ⟨hSb.cell 0, hSb.cell 1, hSb.cell 2, hSb.cell 3, hSb.cell 4, hSb.cell 5, hSb.cell 6, hSb.cell 7, hSb.cell 8, hSb.cell 9⟩; clear hSa hSb; go_simp); first | done | with_reducible rfl)
    (try simp only [Act.put, List.setIfInBounds_toArray, List.set_cons_zero, List.set_cons_succ])
    refine wpAnyH_take (i := 3) (oi := ⟨some 10, _, _, _, _, _⟩) (v := ?_) rfl (by kernel_rfl) (by kernel_rfl) (by kernel_rfl) (fun _ _ _ h => h) (Or.inl ⟨by rfl, ?hy3⟩) hS0 ?re3
    case hy3 => ((intro W hSw; obtain ⟨hSa, hSb⟩ := hSw; obtain ⟨x0, x1, x2, x3, x4, x5, x6, x7, x8, x9⟩ : W.cell? ⟨w.heap.size, 0, none⟩ = some (.slice a1 n1 c1) ∧ W.cell? ⟨w.heap.size, 1, none⟩ = some (.bool o1) ∧ W.cell? ⟨w.heap.size, 2, none⟩ = some (.int .i64 ct1) ∧ W.cell? ⟨w.heap.size, 3, none⟩ = some (.int .i64 co1) ∧ W.cell? ⟨w.heap.size, 4, none⟩ = some (.int .i64 cp1) ∧ W.cell? ⟨w.heap.size, 5, none⟩ = some (.slice f1 p1 g1) ∧ W.cell? ⟨w.heap.size, 6, none⟩ = some (.int .i64 l1) ∧ W.cell? ⟨w.heap.size, 7, none⟩ = some (.int .i64 lt1) ∧ W.cell? ⟨w.heap.size, 8, none⟩ = some (.int .i64 la1) ∧ W.cell? ⟨w.heap.size, 9, none⟩ = some (.slice h1 q1 i1) := ⟨hSa.cell 0, hSa.cell 1, hSa.cell 2, hSa.cell 3, hSa.cell 4, hSa.cell 5, hSa.cell 6, hSa.cell 7, hSa.cell 8, hSa.cell 9⟩; obtain ⟨y0, y1, y2, y3, y4, y5, y6, y7, y8, y9⟩ : W.cell? ⟨w.heap.size + 1, 0, none⟩ = some (.slice a2 n2 c2) ∧ W.cell? ⟨w.heap.size + 1, 1, none⟩ = some (.bool o1) ∧ W.cell? ⟨w.heap.size + 1, 2, none⟩ = some (.int .i64 ct1) ∧ W.cell? ⟨w.heap.size + 1, 3, none⟩ = some (.int .i64 co1) ∧ W.cell? ⟨w.heap.size + 1, 4, none⟩ = some (.int .i64 cp1) ∧ W.cell? ⟨w.heap.size + 1, 5, none⟩ = some (.slice f2 p2 g2) ∧ W.cell? ⟨w.heap.size + 1, 6, none⟩ = some (.int .i64 l1) ∧ W.cell? ⟨w.heap.size + 1, 7, none⟩ = some (.int .i64 lt1) ∧ W.cell? ⟨w.heap.size + 1, 8, none⟩ = some (.int .i64 la1) ∧ W.cell? ⟨w.heap.size + 1, 9, none⟩ = some (.slice h2 q2 i2) := ⟨hSb.cell 0, hSb.cell 1, hSb.cell 2, hSb.cell 3, hSb.cell 4, hSb.cell 5, hSb.cell 6, hSb.cell 7, hSb.cell 8, hSb.cell 9⟩; clear hSa hSb; go_simp); first | done | with_reducible rfl)
    (try simp only [Act.put, List.setIfInBounds_toArray, List.set_cons_zero, List.set_cons_succ])
    refine wpAnyH_ready (rs := [4, 5]) (by kernel_rfl) (by simp) ?_
    refine AllReadyH.cons rfl (fun K hK => ?_) (AllReadyH.cons rfl (fun K hK => ?_) AllReadyH.nil)
    · go_simp
      refine hK.out _ _ (HK1.out _) (fun _ => ?_)
      clear hK K
      (try simp only [Act.put, List.setIfInBounds_toArray, List.set_cons_zero, List.set_cons_succ])
      refine wpAnyH_ready (rs := [5]) (by kernel_rfl) (by simp) ?_
      refine AllReadyH.cons rfl (fun K hK => ?_) AllReadyH.nil
      go_simp
      refine hK.out _ _ (HK2.out _ _) (fun _ => ?_)
      clear hK K
      (try simp only [Act.put, List.setIfInBounds_toArray, List.set_cons_zero, List.set_cons_succ])
      refine wpAnyH_ready (rs := [6]) (by kernel_rfl) (by simp) ?_
      refine AllReadyH.cons rfl (fun K hK => ?_) AllReadyH.nil
      go_simp
      refine hK.out _ _ (HK2.out _ _) (fun _ => ?_)
      clear hK K
      (try simp only [Act.put, List.setIfInBounds_toArray, List.set_cons_zero, List.set_cons_succ])
      refine wpAnyH_ready (rs := [7]) (by kernel_rfl) (by simp) ?_
      refine AllReadyH.cons rfl (fun K hK => ?_) AllReadyH.nil
      go_simp
      refine hK.out _ _ (HK2.out _ _) (fun _ => ?_)
      clear hK K
      (try simp only [Act.put, List.setIfInBounds_toArray, List.set_cons_zero, List.set_cons_succ])
      refine wpAnyH_done (by kernel_rfl) ?_ _
      refine NoPanic.normal ?_
      go_wp2_with fail
      go_meet
      exact ⟨_, _, rfl, rfl, (Bk.new W0 _ [_, _, _, _, _, _, _, _, _]).alloc _, Bk.newAt _ _ [_, _, _, _, _, _, _, _, _] (by simp), ((low_alloc _ _).alloc (by simp) _).drew⟩
    · go_simp
      refine hK.out _ _ (HK1.out _) (fun _ => ?_)
      clear hK K
      (try simp only [Act.put, List.setIfInBounds_toArray, List.set_cons_zero, List.set_cons_succ])
      refine wpAnyH_ready (rs := [4]) (by kernel_rfl) (by simp) ?_
      refine AllReadyH.cons rfl (fun K hK => ?_) AllReadyH.nil
      go_simp
      refine hK.out _ _ (HK2.out _ _) (fun _ => ?_)
      clear hK K
      (try simp only [Act.put, List.setIfInBounds_toArray, List.set_cons_zero, List.set_cons_succ])
      refine wpAnyH_ready (rs := [6]) (by kernel_rfl) (by simp) ?_
      refine AllReadyH.cons rfl (fun K hK => ?_) AllReadyH.nil
      go_simp
      refine hK.out _ _ (HK2.out _ _) (fun _ => ?_)
      clear hK K
      (try simp only [Act.put, List.setIfInBounds_toArray, List.set_cons_zero, List.set_cons_succ])
      refine wpAnyH_ready (rs := [7]) (by kernel_rfl) (by simp) ?_
      refine AllReadyH.cons rfl (fun K hK => ?_) AllReadyH.nil
      go_simp
      refine hK.out _ _ (HK2.out _ _) (fun _ => ?_)
      clear hK K
      (try simp only [Act.put, List.setIfInBounds_toArray, List.set_cons_zero, List.set_cons_succ])
      refine wpAnyH_done (by kernel_rfl) ?_ _
      refine NoPanic.normal ?_
      go_wp2_with fail
      go_meet
      exact ⟨_, _, rfl, rfl, Bk.newAt _ _ [_, _, _, _, _, _, _, _, _] (by simp), (Bk.new W0 _ [_, _, _, _, _, _, _, _, _]).alloc _, ((low_alloc _ _).alloc (by simp) _).drew⟩
  case rest =>
    obtain ⟨p, q, rfl, rfl, hp, hq, hb⟩ := hcut
    have hlow := stepAny HL.out hb
    have y0 := (HA.out.below hb HA.out.lt).cell 0
    have z0 := (HB0.out.below hb HB0.out.lt).cell 0
    simp only [List.getElem?_cons_zero] at y0 z0
    obtain ⟨e0, e1, e2, e3, e4, e5, e6, e7, e8⟩ : wc.cell? ⟨p, 0, none⟩ = some (.bool o1) ∧ wc.cell? ⟨p, 1, none⟩ = some (.int .i64 ct1) ∧ wc.cell? ⟨p, 2, none⟩ = some (.int .i64 co1) ∧ wc.cell? ⟨p, 3, none⟩ = some (.int .i64 cp1) ∧ wc.cell? ⟨p, 4, none⟩ = some (.slice f1 p1 g1) ∧ wc.cell? ⟨p, 5, none⟩ = some (.int .i64 l1) ∧ wc.cell? ⟨p, 6, none⟩ = some (.int .i64 lt1) ∧ wc.cell? ⟨p, 7, none⟩ = some (.int .i64 la1) ∧ wc.cell? ⟨p, 8, none⟩ = some (.slice h1 q1 i1) := ⟨hp.cell 0, hp.cell 1, hp.cell 2, hp.cell 3, hp.cell 4, hp.cell 5, hp.cell 6, hp.cell 7, hp.cell 8⟩
    obtain ⟨j0, j1, j2, j3, j4, j5, j6, j7, j8⟩ : wc.cell? ⟨q, 0, none⟩ = some (.bool o1) ∧ wc.cell? ⟨q, 1, none⟩ = some (.int .i64 ct1) ∧ wc.cell? ⟨q, 2, none⟩ = some (.int .i64 co1) ∧ wc.cell? ⟨q, 3, none⟩ = some (.int .i64 cp1) ∧ wc.cell? ⟨q, 4, none⟩ = some (.slice f2 p2 g2) ∧ wc.cell? ⟨q, 5, none⟩ = some (.int .i64 l1) ∧ wc.cell? ⟨q, 6, none⟩ = some (.int .i64 lt1) ∧ wc.cell? ⟨q, 7, none⟩ = some (.int .i64 la1) ∧ wc.cell? ⟨q, 8, none⟩ = some (.slice h2 q2 i2) := ⟨hq.cell 0, hq.cell 1, hq.cell 2, hq.cell 3, hq.cell 4, hq.cell 5, hq.cell 6, hq.cell 7, hq.cell 8⟩
    clear hb hp hq
    iterate 3 (first | go_values | go_skip | go_guarded | go_step | go_upon | go_back)
    simp only [List.append_eq, List.cons_append, List.nil_append]
    go_wp2_with (first | (go_at_call 42; (with_reducible refine (HE.out _ hlow).mono ?_); rintro e w3 ⟨rfl, rfl⟩; dsimp only) | (go_at_call 43; (with_reducible refine (HB.out _ hlow).mono ?_); rintro e w3 ⟨rfl, rfl⟩; dsimp only) | (go_at_call 43; (with_reducible refine (HC.out _ hlow).mono ?_); rintro e w3 ⟨rfl, rfl⟩; dsimp only))
    go_ret
    exact ⟨rfl, hlow⟩
end Go.Proofs.Yteeoonoccklhmaa
