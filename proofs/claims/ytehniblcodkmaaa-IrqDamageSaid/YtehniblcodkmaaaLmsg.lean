/-
  The walk of IrqMessage (printed by gen/mk15lmsg.py).
-/
import Derived.Test.YtehniblcodkmaaaArgs3
import Derived.Test.YtehniblcodkmaaaRead
import Derived.Test.YtehniblcodkmaaaPlain2
namespace Go.Proofs.Ytehniblcodkmaaa
open Go.RowKit

theorem Keeps.lo {w W : World} {L : List (Nat × TypeId × List Value)} (h : Keeps w L W) : Below w.heap.size w W := h.1
/-- What Message answers, in numbers. -/
def msgS (d t n : Int) (xs : List UInt8) : (Int × Int × Int × Int × Int × Int × List UInt8) × Int :=
  if Iq.proper (d, t, n, xs) = true then (((Iq.driver d).1, 3, d, t, n, Sum.answer d t n xs, xs), 0) else ((0, 0, 0, 0, 0, 0, []), 2)
section
variable {w w' : World} {d t n m1 m2 p0 p1 p2 p3 c x0 x1 x2 g : Int} {xs ys us : List UInt8} {e : Ending}
theorem RetM.o (h : RetM w d t n xs e w') (hr : msgS d t n xs = ((m1, m2, p0, p1, p2, p3, ys), c)) :
    ∃ a k, e = .returned (.tuple #[.agg #[.int .i64 0, .int .i64 m1, .int .i64 m2, .int .i64 0, .int .i64 p0, .int .i64 p1, .int .i64 p2, .int .i64 p3, .slice a ys.length k], .int .i64 c]) ∧ w'.ownsRow w.heap.size 5 1 (.slice a ys.length k) ys.length (ys.map eb) ∧ Below w.heap.size w w' := by
  unfold RetM at h
  unfold msgS at hr
  split at h
  · rename_i hp
    rw [if_pos hp] at hr
    simp only [Prod.mk.injEq] at hr
    obtain ⟨⟨rfl, rfl, rfl, rfl, rfl, rfl, rfl⟩, rfl⟩ := hr
    obtain ⟨u, rfl, ho, hb⟩ := h
    obtain ⟨a, k, rfl⟩ := own_slice ho
    exact ⟨a, k, rfl, ho, hb⟩
  · rename_i hp
    rw [if_neg hp] at hr
    simp only [Prod.mk.injEq] at hr
    obtain ⟨⟨rfl, rfl, rfl, rfl, rfl, rfl, rfl⟩, rfl⟩ := hr
    obtain ⟨rfl, hb⟩ := h
    exact ⟨none, 0, rfl, World.ownsRow_nil _ _ _ _, hb⟩
theorem RetRd.o {r : Iq.Ln × Int} (h : RetRd w r e w') (hr : r = ((x0, x1, x2, us), g)) :
    ∃ a k, e = .returned (.tuple #[.agg #[.int .i64 x0, .int .i64 x1, .int .i64 x2, .slice a us.length k], .int .i64 g]) ∧ Sl eb w' (.slice a us.length k) us ∧ Below w.heap.size w w' := by
  subst hr
  obtain ⟨u, rfl, ho, hb⟩ := h
  obtain ⟨a, k, rfl⟩ := own_slice ho
  exact ⟨a, k, rfl, Sl.ofOwn ho, hb⟩
end

set_option maxRecDepth 100000 in
set_option maxHeartbeats 8000000 in
theorem lmsg_w {w : World} {v0 v1 : Value} (h0 : IsLine w v0) (h1 : IsMsg w v1) :
    Calls Try.prog 8 #[v0, v1] w fun e w' => e = .returned (.bool true) ∧ Below w.heap.size w w' := by
  obtain ⟨⟨d, t, n, xs⟩, ⟨ux, rfl, hxs⟩, -⟩ := h0
  obtain ⟨src, dst, kind, seq, a0, a1, a2, a3, um, zs, rfl, hzs⟩ := h1
  simp only at hxs ⊢
  obtain ⟨ax, cx, rfl, -⟩ := id hxs
  obtain ⟨am, cm, rfl, -⟩ := id hzs
  have HXS := Lib.hid hxs
  have HZS := Lib.hid hzs
  clear hxs hzs
  have hk0 : Keeps w [(w.heap.size + 1, 64, [.int .i64 src, .int .i64 dst, .int .i64 kind, .int .i64 seq, .int .i64 a0, .int .i64 a1, .int .i64 a2, .int .i64 a3, .slice am zs.length cm]), (w.heap.size, 37, [.int .i64 d, .int .i64 t, .int .i64 n, .slice ax xs.length cx])] ((w.alloc (.cells #[.int .i64 d, .int .i64 t, .int .i64 n, .slice ax xs.length cx] 37 (0, 0))).alloc (.cells #[.int .i64 src, .int .i64 dst, .int .i64 kind, .int .i64 seq, .int .i64 a0, .int .i64 a1, .int .i64 a2, .int .i64 a3, .slice am zs.length cm] 64 (0, 0))) := ((Keeps.start w).add 37 [.int .i64 d, .int .i64 t, .int .i64 n, .slice ax xs.length cx] rfl).add 64 [.int .i64 src, .int .i64 dst, .int .i64 kind, .int .i64 seq, .int .i64 a0, .int .i64 a1, .int .i64 a2, .int .i64 a3, .slice am zs.length cm] (by simp)
  have HC0 : Hid (∀ W, Keeps w [(w.heap.size + 1, 64, [.int .i64 src, .int .i64 dst, .int .i64 kind, .int .i64 seq, .int .i64 a0, .int .i64 a1, .int .i64 a2, .int .i64 a3, .slice am zs.length cm]), (w.heap.size, 37, [.int .i64 d, .int .i64 t, .int .i64 n, .slice ax xs.length cx])] W → (W.cell? ⟨w.heap.size, 0, none⟩ = some (.int .i64 d) ∧ W.cell? ⟨w.heap.size, 1, none⟩ = some (.int .i64 t) ∧ W.cell? ⟨w.heap.size, 2, none⟩ = some (.int .i64 n) ∧ W.cell? ⟨w.heap.size, 3, none⟩ = some (.slice ax xs.length cx)) ∧ (W.cell? ⟨w.heap.size + 1, 0, none⟩ = some (.int .i64 src) ∧ W.cell? ⟨w.heap.size + 1, 1, none⟩ = some (.int .i64 dst) ∧ W.cell? ⟨w.heap.size + 1, 2, none⟩ = some (.int .i64 kind) ∧ W.cell? ⟨w.heap.size + 1, 3, none⟩ = some (.int .i64 seq) ∧ W.cell? ⟨w.heap.size + 1, 4, none⟩ = some (.int .i64 a0) ∧ W.cell? ⟨w.heap.size + 1, 5, none⟩ = some (.int .i64 a1) ∧ W.cell? ⟨w.heap.size + 1, 6, none⟩ = some (.int .i64 a2) ∧ W.cell? ⟨w.heap.size + 1, 7, none⟩ = some (.int .i64 a3) ∧ W.cell? ⟨w.heap.size + 1, 8, none⟩ = some (.slice am zs.length cm))) := fun W hW => by
    have e1 := hW.2 _ (.head _)
    have e0 := hW.2 _ (.tail _ (.head _))
    exact ⟨⟨e0.cell 0, e0.cell 1, e0.cell 2, e0.cell 3⟩, e1.cell 0, e1.cell 1, e1.cell 2, e1.cell 3, e1.cell 4, e1.cell 5, e1.cell 6, e1.cell 7, e1.cell 8⟩
  have HK0 := Lib.hid hk0
  clear hk0
  by_cases h300 : xs.length ≤ 300
  case neg =>
    have q0 : (300 : Int) < (xs.length : Int) := by omega
    clear h300
    go_enter Try.func8, Try.ntmps8
    go_wp2_with (first
      | (go_at_call 10; have _t := tok; refine (awake_w w1).mono ?_; rintro e w3 ⟨rfl, hb3⟩)
      | (go_at_call 10; refine (awake_w _).mono ?_; rintro e w1 ⟨rfl, hb1⟩; have hk1 := HK0.out.step hb1; obtain ⟨⟨qx0, qx1, qx2, qx3⟩, -⟩ := HC0.out _ hk1; have tok := True.intro))
    go_ret
    exact ⟨rfl, (hk1.step hb3).1⟩
  case pos =>
  have q0 : ¬ (300 : Int) < (xs.length : Int) := by omega
  by_cases h301 : zs.length ≤ 300
  case neg =>
    have q1 : (300 : Int) < (zs.length : Int) := by omega
    clear h300 h301
    go_enter Try.func8, Try.ntmps8
    go_wp2_with (first
      | (go_at_call 10; have _t := tok; refine (awake_w w1).mono ?_; rintro e w3 ⟨rfl, hb3⟩)
      | (go_at_call 10; refine (awake_w _).mono ?_; rintro e w1 ⟨rfl, hb1⟩; have hk1 := HK0.out.step hb1; obtain ⟨⟨qx0, qx1, qx2, qx3⟩, qm0, qm1, qm2, qm3, qm4, qm5, qm6, qm7, qm8⟩ := HC0.out _ hk1; have tok := True.intro))
    go_ret
    exact ⟨rfl, (hk1.step hb3).1⟩
  case pos =>
  have q1 : ¬ (300 : Int) < (zs.length : Int) := by omega
  obtain ⟨⟨m1, m2, p0, p1, p2, p3, ys⟩, c, hms⟩ : ∃ (s : Int × Int × Int × Int × Int × Int × List UInt8) (c : Int), msgS d t n xs = (s, c) := ⟨_, _, rfl⟩
  obtain ⟨⟨x0, x1, x2, us⟩, g, hrd⟩ : ∃ (s : Iq.Ln) (c : Int), readS kind a0 a1 a2 a3 zs = (s, c) := ⟨_, _, rfl⟩
  have HMA : Hid (∀ W, Below w.heap.size w W → Calls Try.prog 29 #[.agg #[.int .i64 d, .int .i64 t, .int .i64 n, .slice ax xs.length cx]] W fun e w' => ∃ a k, e = .returned (.tuple #[.agg #[.int .i64 0, .int .i64 m1, .int .i64 m2, .int .i64 0, .int .i64 p0, .int .i64 p1, .int .i64 p2, .int .i64 p3, .slice a ys.length k], .int .i64 c]) ∧ w'.ownsRow W.heap.size 5 1 (.slice a ys.length k) ys.length (ys.map eb) ∧ Below W.heap.size W w') := fun W hW => (message_w d t n (HXS.out.below hW (Nat.le_refl _))).mono fun _ _ h => h.o hms
  have HMB : Hid (∀ W, Below w.heap.size w W → Calls Try.prog 30 #[.agg #[.int .i64 d, .int .i64 t, .int .i64 n, .slice ax xs.length cx]] W fun e w' => ∃ a k, e = .returned (.tuple #[.agg #[.int .i64 0, .int .i64 m1, .int .i64 m2, .int .i64 0, .int .i64 p0, .int .i64 p1, .int .i64 p2, .int .i64 p3, .slice a ys.length k], .int .i64 c]) ∧ w'.ownsRow W.heap.size 5 1 (.slice a ys.length k) ys.length (ys.map eb) ∧ Below W.heap.size W w') := fun W hW => (rmessage_w d t n (HXS.out.below hW (Nat.le_refl _))).mono fun _ _ h => h.o hms
  have HRA : Hid (∀ W, Below w.heap.size w W → Calls Try.prog 31 #[.agg #[.int .i64 src, .int .i64 dst, .int .i64 kind, .int .i64 seq, .int .i64 a0, .int .i64 a1, .int .i64 a2, .int .i64 a3, .slice am zs.length cm]] W fun e w' => ∃ a k, e = .returned (.tuple #[.agg #[.int .i64 x0, .int .i64 x1, .int .i64 x2, .slice a us.length k], .int .i64 g]) ∧ Sl eb w' (.slice a us.length k) us ∧ Below W.heap.size W w') := fun W hW => (read_w src dst kind seq a0 a1 a2 a3 (HZS.out.below hW (Nat.le_refl _)) (by omega)).mono fun _ _ h => h.o hrd
  have HRB : Hid (∀ W, Below w.heap.size w W → Calls Try.prog 32 #[.agg #[.int .i64 src, .int .i64 dst, .int .i64 kind, .int .i64 seq, .int .i64 a0, .int .i64 a1, .int .i64 a2, .int .i64 a3, .slice am zs.length cm]] W fun e w' => ∃ a k, e = .returned (.tuple #[.agg #[.int .i64 x0, .int .i64 x1, .int .i64 x2, .slice a us.length k], .int .i64 g]) ∧ Sl eb w' (.slice a us.length k) us ∧ Below W.heap.size W w') := fun W hW => (rread_w src dst kind seq a0 a1 a2 a3 (HZS.out.below hW (Nat.le_refl _)) (by omega)).mono fun _ _ h => h.o hrd
  clear hms hrd h300 h301
  go_enter Try.func8, Try.ntmps8
  go_upto_region 4 with (first
    | (go_at_call 29; (with_reducible refine (HMA.out _ hk1.lo).mono ?_); rintro e w2 ⟨aA, kA, rfl, hoA, hb2⟩)
    | (go_at_call 10; refine (awake_w _).mono ?_; rintro e w1 ⟨rfl, hb1⟩; have hk1 := HK0.out.step hb1; obtain ⟨⟨qx0, qx1, qx2, qx3⟩, qm0, qm1, qm2, qm3, qm4, qm5, qm6, qm7, qm8⟩ := HC0.out _ hk1))
  have hk2 : Keeps w ((w2.heap.size, 64, [.int .i64 0, .int .i64 m1, .int .i64 m2, .int .i64 0, .int .i64 p0, .int .i64 p1, .int .i64 p2, .int .i64 p3, .slice aA ys.length kA]) :: [(w.heap.size + 1, 64, [.int .i64 src, .int .i64 dst, .int .i64 kind, .int .i64 seq, .int .i64 a0, .int .i64 a1, .int .i64 a2, .int .i64 a3, .slice am zs.length cm]), (w.heap.size, 37, [.int .i64 d, .int .i64 t, .int .i64 n, .slice ax xs.length cx])]) (w2.alloc (.cells #[.int .i64 0, .int .i64 m1, .int .i64 m2, .int .i64 0, .int .i64 p0, .int .i64 p1, .int .i64 p2, .int .i64 p3, .slice aA ys.length kA] 64 (0, 0))) := (hk1.step hb2).add 64 [.int .i64 0, .int .i64 m1, .int .i64 m2, .int .i64 0, .int .i64 p0, .int .i64 p1, .int .i64 p2, .int .i64 p3, .slice aA ys.length kA] rfl
  have hsA : Sl eb (w2.alloc (.cells #[.int .i64 0, .int .i64 m1, .int .i64 m2, .int .i64 0, .int .i64 p0, .int .i64 p1, .int .i64 p2, .int .i64 p3, .slice aA ys.length kA] 64 (0, 0))) (.slice aA ys.length kA) ys := (Sl.ofOwn hoA).below (low_alloc w2 _) (Nat.le_refl _)
  generalize w2.alloc (.cells #[.int .i64 0, .int .i64 m1, .int .i64 m2, .int .i64 0, .int .i64 p0, .int .i64 p1, .int .i64 p2, .int .i64 p3, .slice aA ys.length kA] 64 (0, 0)) = W2 at *
  generalize w2.heap.size = bA at *
  clear qx0 qx1 qx2 qx3 qm0 qm1 qm2 qm3 qm4 qm5 qm6 qm7 qm8 hk1 hb1 hoA hb2
  obtain ⟨⟨qx0, qx1, qx2, qx3⟩, qm0, qm1, qm2, qm3, qm4, qm5, qm6, qm7, qm8⟩ := HC0.out _ (hk2.less (by simp))
  go_upto_region 5 with (go_at_call 30; (with_reducible refine (HMB.out _ hk2.lo).mono ?_); rintro e w3 ⟨aB, kB, rfl, hoB, hb3⟩)
  have hk3 : Keeps w ((w3.heap.size, 64, [.int .i64 0, .int .i64 m1, .int .i64 m2, .int .i64 0, .int .i64 p0, .int .i64 p1, .int .i64 p2, .int .i64 p3, .slice aB ys.length kB]) :: (bA, 64, [.int .i64 0, .int .i64 m1, .int .i64 m2, .int .i64 0, .int .i64 p0, .int .i64 p1, .int .i64 p2, .int .i64 p3, .slice aA ys.length kA]) :: [(w.heap.size + 1, 64, [.int .i64 src, .int .i64 dst, .int .i64 kind, .int .i64 seq, .int .i64 a0, .int .i64 a1, .int .i64 a2, .int .i64 a3, .slice am zs.length cm]), (w.heap.size, 37, [.int .i64 d, .int .i64 t, .int .i64 n, .slice ax xs.length cx])]) (w3.alloc (.cells #[.int .i64 0, .int .i64 m1, .int .i64 m2, .int .i64 0, .int .i64 p0, .int .i64 p1, .int .i64 p2, .int .i64 p3, .slice aB ys.length kB] 64 (0, 0))) := (hk2.step hb3).add 64 [.int .i64 0, .int .i64 m1, .int .i64 m2, .int .i64 0, .int .i64 p0, .int .i64 p1, .int .i64 p2, .int .i64 p3, .slice aB ys.length kB] rfl
  have hY : Below W2.heap.size W2 (w3.alloc (.cells #[.int .i64 0, .int .i64 m1, .int .i64 m2, .int .i64 0, .int .i64 p0, .int .i64 p1, .int .i64 p2, .int .i64 p3, .slice aB ys.length kB] 64 (0, 0))) := stepAny hb3 (low_alloc _ _)
  have hsA3 := hsA.below hY (Nat.le_refl _)
  have hsB : Sl eb (w3.alloc (.cells #[.int .i64 0, .int .i64 m1, .int .i64 m2, .int .i64 0, .int .i64 p0, .int .i64 p1, .int .i64 p2, .int .i64 p3, .slice aB ys.length kB] 64 (0, 0))) (.slice aB ys.length kB) ys := (Sl.ofOwn hoB).below (low_alloc w3 _) (Nat.le_refl _)
  generalize w3.alloc (.cells #[.int .i64 0, .int .i64 m1, .int .i64 m2, .int .i64 0, .int .i64 p0, .int .i64 p1, .int .i64 p2, .int .i64 p3, .slice aB ys.length kB] 64 (0, 0)) = W3 at *
  generalize w3.heap.size = bB at *
  clear qx0 qx1 qx2 qx3 qm0 qm1 qm2 qm3 qm4 qm5 qm6 qm7 qm8 hk2 hb3 hoB hY hsA
  obtain ⟨⟨qx0, qx1, qx2, qx3⟩, qm0, qm1, qm2, qm3, qm4, qm5, qm6, qm7, qm8⟩ := HC0.out _ (hk3.less (by simp))
  go_upto_region 6 with (go_at_call 31; (with_reducible refine (HRA.out _ hk3.lo).mono ?_); rintro e w4 ⟨aC, kC, rfl, hsC, hb4⟩)
  have hk4 : Keeps w ((w4.heap.size, 38, [.int .i64 x0, .int .i64 x1, .int .i64 x2, .slice aC us.length kC]) :: (bB, 64, [.int .i64 0, .int .i64 m1, .int .i64 m2, .int .i64 0, .int .i64 p0, .int .i64 p1, .int .i64 p2, .int .i64 p3, .slice aB ys.length kB]) :: (bA, 64, [.int .i64 0, .int .i64 m1, .int .i64 m2, .int .i64 0, .int .i64 p0, .int .i64 p1, .int .i64 p2, .int .i64 p3, .slice aA ys.length kA]) :: [(w.heap.size + 1, 64, [.int .i64 src, .int .i64 dst, .int .i64 kind, .int .i64 seq, .int .i64 a0, .int .i64 a1, .int .i64 a2, .int .i64 a3, .slice am zs.length cm]), (w.heap.size, 37, [.int .i64 d, .int .i64 t, .int .i64 n, .slice ax xs.length cx])]) (w4.alloc (.cells #[.int .i64 x0, .int .i64 x1, .int .i64 x2, .slice aC us.length kC] 38 (0, 0))) := (hk3.step hb4).add 38 [.int .i64 x0, .int .i64 x1, .int .i64 x2, .slice aC us.length kC] rfl
  have hY : Below W3.heap.size W3 (w4.alloc (.cells #[.int .i64 x0, .int .i64 x1, .int .i64 x2, .slice aC us.length kC] 38 (0, 0))) := stepAny hb4 (low_alloc _ _)
  have hsA4 := hsA3.below hY (Nat.le_refl _)
  have hsB4 := hsB.below hY (Nat.le_refl _)
  have hsC4 := hsC.below (low_alloc w4 (.cells #[.int .i64 x0, .int .i64 x1, .int .i64 x2, .slice aC us.length kC] 38 (0, 0))) (Nat.le_refl _)
  generalize w4.alloc (.cells #[.int .i64 x0, .int .i64 x1, .int .i64 x2, .slice aC us.length kC] 38 (0, 0)) = W4 at *
  generalize w4.heap.size = bC at *
  clear qx0 qx1 qx2 qx3 qm0 qm1 qm2 qm3 qm4 qm5 qm6 qm7 qm8 hk3 hb4 hsC hY hsA3 hsB
  obtain ⟨⟨qx0, qx1, qx2, qx3⟩, qm0, qm1, qm2, qm3, qm4, qm5, qm6, qm7, qm8⟩ := HC0.out _ (hk4.less (by simp))
  go_upto_region 7 with (go_at_call 32; (with_reducible refine (HRB.out _ hk4.lo).mono ?_); rintro e w5 ⟨aD, kD, rfl, hsD, hb5⟩)
  have hk5 : Keeps w ((w5.heap.size, 37, [.int .i64 x0, .int .i64 x1, .int .i64 x2, .slice aD us.length kD]) :: (bC, 38, [.int .i64 x0, .int .i64 x1, .int .i64 x2, .slice aC us.length kC]) :: (bB, 64, [.int .i64 0, .int .i64 m1, .int .i64 m2, .int .i64 0, .int .i64 p0, .int .i64 p1, .int .i64 p2, .int .i64 p3, .slice aB ys.length kB]) :: (bA, 64, [.int .i64 0, .int .i64 m1, .int .i64 m2, .int .i64 0, .int .i64 p0, .int .i64 p1, .int .i64 p2, .int .i64 p3, .slice aA ys.length kA]) :: [(w.heap.size + 1, 64, [.int .i64 src, .int .i64 dst, .int .i64 kind, .int .i64 seq, .int .i64 a0, .int .i64 a1, .int .i64 a2, .int .i64 a3, .slice am zs.length cm]), (w.heap.size, 37, [.int .i64 d, .int .i64 t, .int .i64 n, .slice ax xs.length cx])]) (w5.alloc (.cells #[.int .i64 x0, .int .i64 x1, .int .i64 x2, .slice aD us.length kD] 37 (0, 0))) := (hk4.step hb5).add 37 [.int .i64 x0, .int .i64 x1, .int .i64 x2, .slice aD us.length kD] rfl
  have hY : Below W4.heap.size W4 (w5.alloc (.cells #[.int .i64 x0, .int .i64 x1, .int .i64 x2, .slice aD us.length kD] 37 (0, 0))) := stepAny hb5 (low_alloc _ _)
  have hsA5 := hsA4.below hY (Nat.le_refl _)
  have hsB5 := hsB4.below hY (Nat.le_refl _)
  have hsC5 := hsC4.below hY (Nat.le_refl _)
  have hsD5 := hsD.below (low_alloc w5 (.cells #[.int .i64 x0, .int .i64 x1, .int .i64 x2, .slice aD us.length kD] 37 (0, 0))) (Nat.le_refl _)
  generalize w5.alloc (.cells #[.int .i64 x0, .int .i64 x1, .int .i64 x2, .slice aD us.length kD] 37 (0, 0)) = W5 at *
  generalize w5.heap.size = bD at *
  clear qx0 qx1 qx2 qx3 qm0 qm1 qm2 qm3 qm4 qm5 qm6 qm7 qm8 hk4 hb5 hsD hY hsA4 hsB4 hsC4
  have HC5 : Hid (∀ W, Below W5.heap.size W5 W → (W.cell? ⟨bA, 0, none⟩ = some (.int .i64 0) ∧ W.cell? ⟨bA, 1, none⟩ = some (.int .i64 m1) ∧ W.cell? ⟨bA, 2, none⟩ = some (.int .i64 m2) ∧ W.cell? ⟨bA, 3, none⟩ = some (.int .i64 0) ∧ W.cell? ⟨bA, 4, none⟩ = some (.int .i64 p0) ∧ W.cell? ⟨bA, 5, none⟩ = some (.int .i64 p1) ∧ W.cell? ⟨bA, 6, none⟩ = some (.int .i64 p2) ∧ W.cell? ⟨bA, 7, none⟩ = some (.int .i64 p3) ∧ W.cell? ⟨bA, 8, none⟩ = some (.slice aA ys.length kA)) ∧ (W.cell? ⟨bB, 0, none⟩ = some (.int .i64 0) ∧ W.cell? ⟨bB, 1, none⟩ = some (.int .i64 m1) ∧ W.cell? ⟨bB, 2, none⟩ = some (.int .i64 m2) ∧ W.cell? ⟨bB, 3, none⟩ = some (.int .i64 0) ∧ W.cell? ⟨bB, 4, none⟩ = some (.int .i64 p0) ∧ W.cell? ⟨bB, 5, none⟩ = some (.int .i64 p1) ∧ W.cell? ⟨bB, 6, none⟩ = some (.int .i64 p2) ∧ W.cell? ⟨bB, 7, none⟩ = some (.int .i64 p3) ∧ W.cell? ⟨bB, 8, none⟩ = some (.slice aB ys.length kB)) ∧ (W.cell? ⟨bC, 0, none⟩ = some (.int .i64 x0) ∧ W.cell? ⟨bC, 1, none⟩ = some (.int .i64 x1) ∧ W.cell? ⟨bC, 2, none⟩ = some (.int .i64 x2) ∧ W.cell? ⟨bC, 3, none⟩ = some (.slice aC us.length kC)) ∧ (W.cell? ⟨bD, 0, none⟩ = some (.int .i64 x0) ∧ W.cell? ⟨bD, 1, none⟩ = some (.int .i64 x1) ∧ W.cell? ⟨bD, 2, none⟩ = some (.int .i64 x2) ∧ W.cell? ⟨bD, 3, none⟩ = some (.slice aD us.length kD))) := fun W hW => by
    have hk := hk5.step hW
    have eD := hk.2 _ (.head _)
    have eC := hk.2 _ (.tail _ (.head _))
    have eB := hk.2 _ (.tail _ (.tail _ (.head _)))
    have eA := hk.2 _ (.tail _ (.tail _ (.tail _ (.head _))))
    exact ⟨⟨eA.cell 0, eA.cell 1, eA.cell 2, eA.cell 3, eA.cell 4, eA.cell 5, eA.cell 6, eA.cell 7, eA.cell 8⟩, ⟨eB.cell 0, eB.cell 1, eB.cell 2, eB.cell 3, eB.cell 4, eB.cell 5, eB.cell 6, eB.cell 7, eB.cell 8⟩, ⟨eC.cell 0, eC.cell 1, eC.cell 2, eC.cell 3⟩, eD.cell 0, eD.cell 1, eD.cell 2, eD.cell 3⟩
  have HSM : Hid (∀ W, Below W5.heap.size W5 W → Calls Try.prog 33 #[.agg #[.int .i64 0, .int .i64 m1, .int .i64 m2, .int .i64 0, .int .i64 p0, .int .i64 p1, .int .i64 p2, .int .i64 p3, .slice aA ys.length kA], .agg #[.int .i64 0, .int .i64 m1, .int .i64 m2, .int .i64 0, .int .i64 p0, .int .i64 p1, .int .i64 p2, .int .i64 p3, .slice aB ys.length kB]] W fun e w' => e = .returned (.bool true) ∧ Below W.heap.size W w') := fun W hW => sameMsg_t 0 m1 m2 0 p0 p1 p2 p3 (hsA5.below hW (Nat.le_refl _)) (hsB5.below hW (Nat.le_refl _))
  have HSL : Hid (∀ W, Below W5.heap.size W5 W → Calls Try.prog 16 #[.agg #[.int .i64 x0, .int .i64 x1, .int .i64 x2, .slice aC us.length kC], .agg #[.int .i64 x0, .int .i64 x1, .int .i64 x2, .slice aD us.length kD]] W fun e w' => e = .returned (.bool true) ∧ Below W.heap.size W w') := fun W hW =>
    (sameLine_w (x := (x0, x1, x2, us)) (y := (x0, x1, x2, us)) ⟨_, rfl, hsC5.below hW (Nat.le_refl _)⟩ ⟨_, rfl, hsD5.below hW (Nat.le_refl _)⟩).mono fun _ _ h => ⟨by rw [h.1]; simp, h.2⟩
  obtain ⟨⟨qa0, qa1, qa2, qa3, qa4, qa5, qa6, qa7, qa8⟩, ⟨qb0, qb1, qb2, qb3, qb4, qb5, qb6, qb7, qb8⟩, -⟩ := HC5.out _ (low_refl W5)
  have HLOW := Lib.hid hk5.1
  clear hk5 hsA5 hsB5 hsC5 hsD5
  go_wp2_with (first
    | (go_at_call 33; (with_reducible refine (HSM.out _ (low_refl W5)).mono ?_); rintro e w6 ⟨rfl, hb6⟩; obtain ⟨-, -, ⟨qc0, qc1, qc2, qc3⟩, qd0, qd1, qd2, qd3⟩ := HC5.out w6 hb6)
    | (go_at_call 16; (with_reducible refine (HSL.out _ hb6).mono ?_); rintro e w7 ⟨rfl, hb7⟩))
  go_ret
  exact ⟨rfl, stepAny (stepAny HLOW.out hb6) hb7⟩
end Go.Proofs.Ytehniblcodkmaaa
