/-
  The walks of Answer of the reference, and of Right.
-/
import Derived.Test.YtehniblcodkmaaaSumA
namespace Go.Proofs.Ytehniblcodkmaaa
open Go.RowKit

/-- The sum of the first k numbers, each as eight bytes. -/
def headS (l : List Int) (k : Nat) : UInt64 := Sum.sum Sum.start (headB l k)
theorem headS_succ (l : List Int) (k : Nat) (hk : k < l.length) : headS l (k + 1) = Sum.sum (headS l k) (Sum.eight l[k]) := by
  unfold headS
  rw [headB_succ l k hk, Sum.sum_append]

theorem cell4 (d t a n : Int) (k : Nat) (h : k < 4) : ([.int .i64 d, .int .i64 t, .int .i64 a, .int .i64 n] : List Value)[k]? = some (.int .i64 ([d, t, a, n][k]'h)) := by
  match k, h with
  | 0, _ => rfl
  | 1, _ => rfl
  | 2, _ => rfl
  | 3, _ => rfl

set_option maxRecDepth 100000 in
set_option maxHeartbeats 1600000 in
theorem ranswer_w (d t a : Int) {v : Value} {xs : List UInt8} {w : World} (hv : Sl eb w v xs) :
    Calls Try.prog 49 #[.int .i64 d, .int .i64 t, .int .i64 a, v] w fun e w' => e = .returned (.int .i64 (Sum.answer d t a xs)) ∧ Below w.heap.size w w' := by
  obtain ⟨ad, cap, rfl, hc, hcm, -⟩ := id hv
  have HV := Lib.hid hv
  unfold maxLen at hcm
  have HR : Hid (Sum.answer d t a xs = Sum.int (Sum.sum (headS [d, t, a, (xs.length : Int)] 4) xs)) := by
    show _ = _
    unfold Sum.answer headS headB
    simp
  generalize Sum.answer d t a xs = r at *
  have HHS := Lib.hid (fun k (hk : k < 4) => headS_succ [d, t, a, (xs.length : Int)] k hk)
  have h0 : (125762890854254 : Int) = ((headS [d, t, a, (xs.length : Int)] 0).toNat : Int) := start_val.symm
  have H0 := Lib.hid h0
  have HK0 : Hid (Bk (w.alloc (.cells #[.int .i64 d, .int .i64 t, .int .i64 a, .int .i64 (xs.length : Int)] 3 (0, 0))) w.heap.size 3 [.int .i64 d, .int .i64 t, .int .i64 a, .int .i64 (xs.length : Int)]) := Bk.new w _ [_, _, _, _]
  have HE : Hid (∀ W n, Calls Try.prog 57 #[.int .u64 (IntKind.u64.wrap n)] W fun e w' => ∃ v', e = .returned v' ∧ Sl eb w' v' (Sum.eight n) ∧ Below W.heap.size W w') := fun W n => by
    rw [word_val]
    exact reight_w (Sum.word n)
  clear hv h0
  go_enter Try.func49, Try.ntmps49
  go_wp2
  go_loopw [9, 11] (fun s9 i wr => ∃ k : Nat, i = .int .i64 k ∧ k ≤ 4 ∧ s9 = .int .u64 ((headS [d, t, a, (xs.length : Int)] k).toNat : Int) ∧ Bk wr w.heap.size 3 [.int .i64 d, .int .i64 t, .int .i64 a, .int .i64 (xs.length : Int)] ∧ Below w.heap.size w wr) (fun _ i _ => 4 - (intOf i).toNat)
  case atStart => exact ⟨0, rfl, by omega, by rw [H0.out], HK0.out, low_alloc _ _⟩
  case round =>
    obtain ⟨k, rfl, hk, rfl, hK, hbl⟩ := hrel
    by_cases hlt : k < 4
    · have HS := Lib.hid (HHS.out k hlt)
      have f1 : (0 : Int) ≤ (k : Int) := by omega
      have f2 : (k : Int) < (4 : Int) := by omega
      obtain ⟨y, hy, hcell⟩ : ∃ y, y = [d, t, a, (xs.length : Int)][k]'hlt ∧ wr.cell? ⟨w.heap.size, k, none⟩ = some (.int .i64 y) := ⟨_, rfl, by
        rw [hK.cell]
        exact cell4 d t a _ k hlt⟩
      have HY := Lib.hid hy
      have HK := Lib.hid hK
      have HFR : Hid (∀ W v, Sl eb W v (Sum.eight y) → Calls Try.prog 56 #[.int .u64 ((headS [d, t, a, (xs.length : Int)] k).toNat : Int), v] W fun e w' => e = .returned (.int .u64 ((Sum.sum (headS [d, t, a, (xs.length : Int)] k) (Sum.eight y)).toNat : Int)) ∧ W = w') := fun W v h => rfrom_w _ h
      clear hK hy
      generalize headS [d, t, a, (xs.length : Int)] k = q at *
      go_wp2_with (first
        | (go_at_call 57; (with_reducible refine (HE.out _ _).mono ?_); rintro e w1 ⟨v1, rfl, hs1, hb1⟩)
        | (go_at_call 56; (with_reducible refine (HFR.out _ _ hs1).mono ?_); rintro e w2 ⟨rfl, rfl⟩))
      go_roundw
      case rel => exact ⟨k + 1, by go_num, by omega, by rw [HS.out, ← HY.out], HK.out.below hb1 HK.out.lt, stepAny hbl hb1⟩
      case measure => simp [intOf]; omega
    · obtain rfl : k = 4 := by omega
      have HF2 := Lib.hid (rfrom_w (headS [d, t, a, (xs.length : Int)] 4) (HV.out.below hbl (Nat.le_refl _)))
      have HI := int_val (Sum.sum (headS [d, t, a, (xs.length : Int)] 4) xs)
      rw [← HR.out] at HI
      generalize Sum.sum (headS [d, t, a, (xs.length : Int)] 4) xs = q2 at *
      generalize headS [d, t, a, (xs.length : Int)] 4 = q1 at *
      have HI2 := Lib.hid HI
      clear HI
      go_wp2_with (go_at_call 56; (with_reducible refine HF2.out.mono ?_); rintro e w1 ⟨rfl, rfl⟩)
      go_ret
      exact ⟨ret_int (by have := HI2.out; rw [IntWalk.i64_left] at this; first | exact this | (rw [IntWalk.i64_left]; exact this)), hbl⟩

/-- The cells of a message. -/
def msC (src dst kind seq a0 a1 a2 a3 : Int) (u : Value) : List Value := [.int .i64 src, .int .i64 dst, .int .i64 kind, .int .i64 seq, .int .i64 a0, .int .i64 a1, .int .i64 a2, .int .i64 a3, u]

/-- A message's box. -/
structure BoxM (W : World) (b : Nat) (src dst kind seq a0 a1 a2 a3 : Int) (u : Value) : Prop where
  p0 : W.cell? ⟨b, 0, none⟩ = some (.int .i64 src)
  p1 : W.cell? ⟨b, 1, none⟩ = some (.int .i64 dst)
  p2 : W.cell? ⟨b, 2, none⟩ = some (.int .i64 kind)
  p3 : W.cell? ⟨b, 3, none⟩ = some (.int .i64 seq)
  p4 : W.cell? ⟨b, 4, none⟩ = some (.int .i64 a0)
  p5 : W.cell? ⟨b, 5, none⟩ = some (.int .i64 a1)
  p6 : W.cell? ⟨b, 6, none⟩ = some (.int .i64 a2)
  p7 : W.cell? ⟨b, 7, none⟩ = some (.int .i64 a3)
  p8 : W.cell? ⟨b, 8, none⟩ = some u
theorem Bk.boxM {W : World} {b : Nat} {T : TypeId} {src dst kind seq a0 a1 a2 a3 : Int} {u : Value} (h : Bk W b T (msC src dst kind seq a0 a1 a2 a3 u)) : BoxM W b src dst kind seq a0 a1 a2 a3 u :=
  ⟨h.cell 0, h.cell 1, h.cell 2, h.cell 3, h.cell 4, h.cell 5, h.cell 6, h.cell 7, h.cell 8⟩

set_option maxRecDepth 100000 in
set_option maxHeartbeats 800000 in
theorem right_w (src dst kind seq a0 a1 a2 a3 : Int) {u : Value} {xs : List UInt8} {w : World} (hv : Sl eb w u xs) :
    Calls Try.prog 50 #[.agg #[.int .i64 src, .int .i64 dst, .int .i64 kind, .int .i64 seq, .int .i64 a0, .int .i64 a1, .int .i64 a2, .int .i64 a3, u]] w fun e w' => e = .returned (.bool (a3 == Sum.answer a0 a1 a2 xs)) ∧ Below w.heap.size w w' := by
  obtain ⟨ad, cap, rfl, -⟩ := id hv
  have hK : Bk (w.alloc (.cells #[.int .i64 src, .int .i64 dst, .int .i64 kind, .int .i64 seq, .int .i64 a0, .int .i64 a1, .int .i64 a2, .int .i64 a3, .slice ad xs.length cap] 64 (0, 0))) w.heap.size 64 (msC src dst kind seq a0 a1 a2 a3 (.slice ad xs.length cap)) := Bk.new w _ (msC src dst kind seq a0 a1 a2 a3 (.slice ad xs.length cap))
  have HQ : Hid (∀ W, Below (w.alloc (.cells #[.int .i64 src, .int .i64 dst, .int .i64 kind, .int .i64 seq, .int .i64 a0, .int .i64 a1, .int .i64 a2, .int .i64 a3, .slice ad xs.length cap] 64 (0, 0))).heap.size (w.alloc (.cells #[.int .i64 src, .int .i64 dst, .int .i64 kind, .int .i64 seq, .int .i64 a0, .int .i64 a1, .int .i64 a2, .int .i64 a3, .slice ad xs.length cap] 64 (0, 0))) W →
      W.cell? ⟨w.heap.size, 7, none⟩ = some (.int .i64 a3) ∧ W.cell? ⟨w.heap.size, 4, none⟩ = some (.int .i64 a0) ∧ W.cell? ⟨w.heap.size, 5, none⟩ = some (.int .i64 a1) ∧ W.cell? ⟨w.heap.size, 6, none⟩ = some (.int .i64 a2) ∧ W.cell? ⟨w.heap.size, 8, none⟩ = some (.slice ad xs.length cap)) := fun W hW => by
    have h := (hK.below hW hK.lt).boxM
    exact ⟨h.p7, h.p4, h.p5, h.p6, h.p8⟩
  have hL : Below w.heap.size w (w.alloc (.cells #[.int .i64 src, .int .i64 dst, .int .i64 kind, .int .i64 seq, .int .i64 a0, .int .i64 a1, .int .i64 a2, .int .i64 a3, .slice ad xs.length cap] 64 (0, 0))) := low_alloc _ _
  have HA : Hid (∀ W, Below w.heap.size w W → Calls Try.prog 47 #[.int .i64 a0, .int .i64 a1, .int .i64 a2, .slice ad xs.length cap] W fun e w' => e = .returned (.int .i64 (Sum.answer a0 a1 a2 xs)) ∧ Below W.heap.size W w') := fun W hW => answer_w a0 a1 a2 (hv.below hW (Nat.le_refl _))
  clear hv hK
  generalize Sum.answer a0 a1 a2 xs = r at *
  go_enter Try.func50, Try.ntmps50
  go_wp2_with fail
  generalize hW0 : w.alloc (.cells #[.int .i64 src, .int .i64 dst, .int .i64 kind, .int .i64 seq, .int .i64 a0, .int .i64 a1, .int .i64 a2, .int .i64 a3, .slice ad xs.length cap] 64 (0, 0)) = W0 at *
  have hl0 := low_drew W0
  obtain ⟨p7, p4, p5, p6, p8⟩ := HQ.out _ hl0
  have HLL := Lib.hid hL
  clear hW0
  go_region_held3 (fun w' => w'.cell? ⟨w.heap.size, 7, none⟩ = some (.int .i64 a3) ∧ w'.cell? ⟨w.heap.size, 4, none⟩ = some (.int .i64 a0) ∧ w'.cell? ⟨w.heap.size, 5, none⟩ = some (.int .i64 a1) ∧ w'.cell? ⟨w.heap.size, 6, none⟩ = some (.int .i64 a2) ∧ w'.cell? ⟨w.heap.size, 8, none⟩ = some (.slice ad xs.length cap)) (first | go_keep | exact ⟨by assumption, by assumption, by assumption, by assumption, by assumption⟩) ((go_at_call 47; (with_reducible refine (HA.out _ (stepAny HLL.out (by assumption))).mono ?_); rintro e w9 ⟨rfl, hb9⟩; have hl9 := stepAny hl0 hb9; obtain ⟨p79, p49, p59, p69, p89⟩ := HQ.out w9 hl9))
  go_wp2
  go_ret
  exact ⟨rfl, stepAny HLL.out hl9⟩
end Go.Proofs.Ytehniblcodkmaaa
