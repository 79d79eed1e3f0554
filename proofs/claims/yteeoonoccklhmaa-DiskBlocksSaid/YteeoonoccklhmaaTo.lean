/-
  The walks of channel, to and few of the laws, of Few and FewChannel of the reference.
-/
import Derived.Test.YteeoonoccklhmaaDd
import Derived.Deep.DeepCutAuto
namespace Go.Proofs.Yteeoonoccklhmaa
open Go.RowKit

set_option maxRecDepth 100000 in
set_option maxHeartbeats 800000 in
theorem channel_w (o : Bool) (ct co cp l lt la : Int) (a2 a3 : Option Addr) (n2 c2 n3 c3 : Nat) (w : World) :
    Calls Try.prog 32 #[.agg #[.bool o, .int .i64 ct, .int .i64 co, .int .i64 cp, .slice a2 n2 c2, .int .i64 l, .int .i64 lt, .int .i64 la, .slice a3 n3 c3]] w fun e w' => e = .returned (.agg #[.bool o, .int .i64 ct, .int .i64 co, .int .i64 cp, .slice a2 n2 c2, .int .i64 l, .int .i64 lt, .int .i64 la, .slice a3 n3 c3]) ∧ Below w.heap.size w w' := by
  go_enter Try.func32, Try.ntmps32
  go_wp2_with fail
  refine bodyPost_ret (v := .agg #[.bool o, .int .i64 ct, .int .i64 co, .int .i64 cp, .slice a2 n2 c2, .int .i64 l, .int .i64 lt, .int .i64 la, .slice a3 n3 c3]) (by simp [results, Try.results32, go_sem]) rfl ⟨rfl, (low_alloc _ _).alloc (by simp) _⟩

set_option maxRecDepth 100000 in
set_option maxHeartbeats 1600000 in
theorem to_w (o : Bool) (ct co cp l lt la : Int) (a1 a2 a3 : Option Addr) (n1 c1 n2 c2 n3 c3 : Nat) (w : World) :
    Calls Try.prog 12 #[.agg #[.slice a1 n1 c1, .bool o, .int .i64 ct, .int .i64 co, .int .i64 cp, .slice a2 n2 c2, .int .i64 l, .int .i64 lt, .int .i64 la, .slice a3 n3 c3]] w fun e w' => e = .returned (.agg #[.slice a1 n1 c1, .bool o, .int .i64 ct, .int .i64 co, .int .i64 cp, .slice a2 n2 c2, .int .i64 l, .int .i64 lt, .int .i64 la, .slice a3 n3 c3]) ∧ Below w.heap.size w w' := by
  obtain ⟨W0, hW0⟩ : ∃ W0, W0 = (w.alloc (.cells #[.slice a1 n1 c1, .bool o, .int .i64 ct, .int .i64 co, .int .i64 cp, .slice a2 n2 c2, .int .i64 l, .int .i64 lt, .int .i64 la, .slice a3 n3 c3] 31 (0, 0))).alloc (.cells #[.slice none 0 0, .bool false, .int .i64 0, .int .i64 0, .int .i64 0, .slice none 0 0, .int .i64 0, .int .i64 0, .int .i64 0, .slice none 0 0] 39 (0, 0)) := ⟨_, rfl⟩
  have hK : Bk W0 w.heap.size 31 (dkC (.slice a1 n1 c1) o ct co cp (.slice a2 n2 c2) l lt la (.slice a3 n3 c3)) := by rw [hW0]; exact (Bk.new w _ (dkC _ _ _ _ _ _ _ _ _ _)).alloc _
  have hR : Bk W0 (w.heap.size + 1) 39 (dkC (.slice none 0 0) false 0 0 0 (.slice none 0 0) 0 0 0 (.slice none 0 0)) := by rw [hW0]; exact Bk.newAt _ _ (dkC _ _ _ _ _ _ _ _ _ _) (by simp)
  have hL : Below w.heap.size w W0 := by rw [hW0]; exact (low_alloc _ _).alloc (by simp) _
  have HCH : Hid (∀ W, Calls Try.prog 32 #[.agg #[.bool o, .int .i64 ct, .int .i64 co, .int .i64 cp, .slice a2 n2 c2, .int .i64 l, .int .i64 lt, .int .i64 la, .slice a3 n3 c3]] W fun e w' => e = .returned (.agg #[.bool o, .int .i64 ct, .int .i64 co, .int .i64 cp, .slice a2 n2 c2, .int .i64 l, .int .i64 lt, .int .i64 la, .slice a3 n3 c3]) ∧ Below W.heap.size W w') := fun W => channel_w o ct co cp l lt la a2 a3 n2 c2 n3 c3 W
  have HQ : Hid (∀ W, Below W0.heap.size W0 W → BoxD W w.heap.size (.slice a1 n1 c1) o ct co cp (.slice a2 n2 c2) l lt la (.slice a3 n3 c3) ∧ BoxD W (w.heap.size + 1) (.slice none 0 0) false 0 0 0 (.slice none 0 0) 0 0 0 (.slice none 0 0) ∧ FrzD W (w.heap.size + 1)) := fun W hW => ⟨(hK.below hW hK.lt).boxD, (hR.below hW hR.lt).boxD, (hR.below hW hR.lt).frzD⟩
  have HL := Lib.hid hL
  clear hK hR hL
  go_enter Try.func12, Try.ntmps12
  go_upto_region 1 with fail
  rw [← hW0]
  clear hW0
  have hl0 := low_drew W0
  obtain ⟨⟨p0, p1, p2, p3, p4, p5, p6, p7, p8, p9⟩, -⟩ := HQ.out _ hl0
  go_region_with ((go_at_call 32; (with_reducible refine (HCH.out _).mono ?_); rintro e w1 ⟨rfl, hb1⟩; have hb01 := stepAny hl0 hb1; clear p0 p1 p2 p3 p4 p5 p6 p7 p8 p9; obtain ⟨⟨p0, p1, p2, p3, p4, p5, p6, p7, p8, p9⟩, ⟨r0, r1, r2, r3, r4, r5, r6, r7, r8, r9⟩, z0, z1, z2, z3, z4, z5, z6, z7, z8, z9⟩ := HQ.out w1 hb01))
  all_goals
    go_wp2_with fail
    refine bodyPost_ret (v := .agg #[.slice a1 n1 c1, .bool o, .int .i64 ct, .int .i64 co, .int .i64 cp, .slice a2 n2 c2, .int .i64 l, .int .i64 lt, .int .i64 la, .slice a3 n3 c3]) (by simp [results, Try.results12, go_sem, r0, r1, r2, r3, r4, r5, r6, r7, r8, r9]) rfl ⟨rfl, ?_⟩
    exact set10 (stepAny HL.out hb01) (by omega) _ _ _ _ _ _ _ _ _ _

set_option maxRecDepth 100000 in
set_option maxHeartbeats 800000 in
theorem fewChannel_w (o : Bool) (ct co cp l lt la : Int) (a2 a3 : Option Addr) (n2 c2 n3 c3 : Nat) (w : World) :
    Calls Try.prog 48 #[.agg #[.bool o, .int .i64 ct, .int .i64 co, .int .i64 cp, .slice a2 n2 c2, .int .i64 l, .int .i64 lt, .int .i64 la, .slice a3 n3 c3]] w fun e w' => e = .returned (.bool (decide (n2 ≤ 300) && decide (n3 ≤ 300))) ∧ Below w.heap.size w w' := by
  by_cases h2 : n2 ≤ 300
  · have q0 : (n2 : Int) ≤ 300 := by omega
    by_cases h3 : n3 ≤ 300
    · have q1 : (n3 : Int) ≤ 300 := by omega
      rw [decide_eq_true h2, decide_eq_true h3]
      clear h2 h3
      go_enter Try.func48, Try.ntmps48
      go_wp2
      go_ret
      exact ⟨ret_bool (by simp), low_alloc _ _⟩
    · have q1 : ¬ (n3 : Int) ≤ 300 := by omega
      rw [decide_eq_true h2, decide_eq_false h3]
      clear h2 h3
      go_enter Try.func48, Try.ntmps48
      go_wp2
      go_ret
      exact ⟨ret_bool (by simp), low_alloc _ _⟩
  · have q0 : ¬ (n2 : Int) ≤ 300 := by omega
    rw [decide_eq_false h2]
    clear h2
    go_enter Try.func48, Try.ntmps48
    go_wp2
    go_ret
    exact ⟨ret_bool (by simp), low_alloc _ _⟩
end Go.Proofs.Yteeoonoccklhmaa
