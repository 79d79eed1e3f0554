/-
  The walks of Answer of sum and of the reference, and of Right.
-/
import Derived.Test.YtehniblcodkmaaaSums
import Derived.Test.YtehniblcodkmaaaIo
namespace Go.Proofs.Ytehniblcodkmaaa
open Go.RowKit

theorem word_val (n : Int) : IntKind.u64.wrap n = ((Sum.word n).toNat : Int) := by
  rw [wrap_u64]
  obtain ⟨m, hm⟩ : ∃ m : Nat, n % 18446744073709551616 = (m : Int) := ⟨(n % 18446744073709551616).toNat, by omega⟩
  unfold Sum.word
  rw [hm, UInt64.toNat_ofNat', Int.toNat_natCast, Nat.mod_eq_of_lt (by omega)]

theorem int_val (h : UInt64) : IntKind.i64.wrap (h.toNat : Int) = Sum.int h := by
  have := h.toNat_lt
  rw [IntWalk.i64_left]
  unfold Sum.int wrap64
  split <;> omega

theorem start_val : (Sum.start.toNat : Int) = 125762890854254 := by decide

/-- The first k numbers of a head, as bytes. -/
def headB (l : List Int) (k : Nat) : List UInt8 := (l.take k).flatMap Sum.eight
theorem headB_len (l : List Int) (k : Nat) (hk : k ≤ l.length) : (headB l k).length = 8 * k := by
  unfold headB
  have h8 : ∀ n : Int, (Sum.eight n).length = 8 := fun n => by unfold Sum.eight Sum.eightN; simp
  have : ∀ l : List Int, (l.flatMap Sum.eight).length = 8 * l.length := fun l => by
    induction l with
    | nil => rfl
    | cons x r ih => rw [List.flatMap_cons, List.length_append, h8, ih, List.length_cons]; omega
  rw [this, List.length_take]
  omega
theorem eight_len (n : Int) : (Sum.eight n).length = 8 := by unfold Sum.eight Sum.eightN; simp
theorem headB_succ (l : List Int) (k : Nat) (hk : k < l.length) : headB l (k + 1) = headB l k ++ Sum.eight l[k] := by
  unfold headB
  rw [List.take_succ_eq_append_getElem hk, List.flatMap_append]
  simp

set_option maxHeartbeats 1600000 in
theorem answer_w (d t a : Int) {v : Value} {xs : List UInt8} {w : World} (hv : Sl eb w v xs) :
    Calls Try.prog 47 #[.int .i64 d, .int .i64 t, .int .i64 a, v] w fun e w' => e = .returned (.int .i64 (Sum.answer d t a xs)) ∧ Below w.heap.size w w' := by
  obtain ⟨ad, cap, rfl, hc, hcm, -⟩ := id hv
  have HV := Lib.hid hv
  unfold maxLen at hcm
  have HR : Hid (Sum.answer d t a xs = Sum.int (Sum.sum (Sum.sum Sum.start (headB [d, t, a, (xs.length : Int)] 4)) xs)) := by
    show _ = _
    unfold Sum.answer headB
    simp
  generalize Sum.answer d t a xs = r at *
  have i0 : ∀ W, (Instr.index 62 (.agg #[.int .i64 d, .int .i64 t, .int .i64 a, .int .i64 (xs.length : Int)]) (.int .i64 0)).run Try.prog W = .ok (.int .i64 d) W := fun _ => by kernel_rfl
  have i1 : ∀ W, (Instr.index 62 (.agg #[.int .i64 d, .int .i64 t, .int .i64 a, .int .i64 (xs.length : Int)]) (.int .i64 1)).run Try.prog W = .ok (.int .i64 t) W := fun _ => by kernel_rfl
  have i2 : ∀ W, (Instr.index 62 (.agg #[.int .i64 d, .int .i64 t, .int .i64 a, .int .i64 (xs.length : Int)]) (.int .i64 2)).run Try.prog W = .ok (.int .i64 a) W := fun _ => by kernel_rfl
  have i3 : ∀ W, (Instr.index 62 (.agg #[.int .i64 d, .int .i64 t, .int .i64 a, .int .i64 (xs.length : Int)]) (.int .i64 3)).run Try.prog W = .ok (.int .i64 (xs.length : Int)) W := fun _ => by kernel_rfl
  have HHL := Lib.hid (fun k (hk : k ≤ 4) => headB_len [d, t, a, (xs.length : Int)] k hk)
  have HHS := Lib.hid (fun k (hk : k < 4) => headB_succ [d, t, a, (xs.length : Int)] k hk)
  have H8 : Hid (∀ W v k n, k ≤ 4 → w.heap.size ≤ W.heap.size → W.ownsRow w.heap.size 5 1 v (headB [d, t, a, (xs.length : Int)] k).length ((headB [d, t, a, (xs.length : Int)] k).map eb) → Calls Try.prog 54 #[v, .int .i64 n] W fun e w' => ∃ v', e = .returned v' ∧ w'.ownsRow w.heap.size 5 1 v' ((headB [d, t, a, (xs.length : Int)] k).length + 8) ((headB [d, t, a, (xs.length : Int)] k ++ Sum.eight n).map eb) ∧ Below w.heap.size W w') := fun W v k n hk hs ho => eight_w w.heap.size n ho hs (by rw [HHL.out k hk]; omega)
  clear hv
  go_enter Try.func47, Try.ntmps47
  go_wp2
  go_loopw [9, 11, 18] (fun s9 _ i wr => ∃ k : Nat, i = .int .i64 k ∧ k ≤ 4 ∧ wr.ownsRow w.heap.size 5 1 s9 (headB [d, t, a, (xs.length : Int)] k).length ((headB [d, t, a, (xs.length : Int)] k).map eb) ∧ Below w.heap.size w wr) (fun _ _ i _ => 4 - (intOf i).toNat)
  case atStart => exact ⟨0, rfl, by omega, World.ownsRow_nil _ _ _ _, Below.refl _ _⟩
  case round =>
    obtain ⟨k, rfl, hk, ho, hbl⟩ := hrel
    obtain ⟨a1, c1, rfl⟩ := own_slice ho
    have HO := Lib.hid ho
    have hbs := hbl.size
    clear ho
    by_cases hlt : k < 4
    · have HS := Lib.hid (HHS.out k hlt)
      have HL1 := Lib.hid (HHL.out (k + 1) hlt)
      have HL0 := Lib.hid (HHL.out k hk)
      match k, hlt with
      | 0, _ =>
        go_wp2_with (go_at_call 54; refine (H8.out _ _ _ _ hk hbs HO.out).mono ?_; rintro e w1 ⟨v1, rfl, ho1, hb1⟩)
        go_roundw
        case rel => exact ⟨1, by go_num, by omega, by rw [HS.out, List.length_append, eight_len]; exact ho1, hbl.trans hb1⟩
        case measure => simp [intOf]
      | 1, _ =>
        go_wp2_with (go_at_call 54; refine (H8.out _ _ _ _ hk hbs HO.out).mono ?_; rintro e w1 ⟨v1, rfl, ho1, hb1⟩)
        go_roundw
        case rel => exact ⟨2, by go_num, by omega, by rw [HS.out, List.length_append, eight_len]; exact ho1, hbl.trans hb1⟩
        case measure => simp [intOf]
      | 2, _ =>
        go_wp2_with (go_at_call 54; refine (H8.out _ _ _ _ hk hbs HO.out).mono ?_; rintro e w1 ⟨v1, rfl, ho1, hb1⟩)
        go_roundw
        case rel => exact ⟨3, by go_num, by omega, by rw [HS.out, List.length_append, eight_len]; exact ho1, hbl.trans hb1⟩
        case measure => simp [intOf]
      | 3, _ =>
        go_wp2_with (go_at_call 54; refine (H8.out _ _ _ _ hk hbs HO.out).mono ?_; rintro e w1 ⟨v1, rfl, ho1, hb1⟩)
        go_roundw
        case rel => exact ⟨4, by go_num, by omega, by rw [HS.out, List.length_append, eight_len]; exact ho1, hbl.trans hb1⟩
        case measure => simp [intOf]
    · obtain rfl : k = 4 := by omega
      have HF1 : Hid (Calls Try.prog 55 #[.int .u64 125762890854254, .slice a1 (headB [d, t, a, (xs.length : Int)] 4).length c1] wr fun e w' => e = .returned (.int .u64 ((Sum.sum Sum.start (headB [d, t, a, (xs.length : Int)] 4)).toNat : Int)) ∧ wr = w') := by
        have := sfrom_w Sum.start (Sl.ofOwn HO.out)
        rw [start_val] at this
        exact this
      have HF2 := Lib.hid (sfrom_w (Sum.sum Sum.start (headB [d, t, a, (xs.length : Int)] 4)) (HV.out.below hbl (Nat.le_refl _)))
      have HI := int_val (Sum.sum (Sum.sum Sum.start (headB [d, t, a, (xs.length : Int)] 4)) xs)
      rw [← HR.out] at HI
      generalize Sum.sum (Sum.sum Sum.start (headB [d, t, a, (xs.length : Int)] 4)) xs = q2 at *
      generalize Sum.sum Sum.start (headB [d, t, a, (xs.length : Int)] 4) = q1 at *
      generalize (headB [d, t, a, (xs.length : Int)] 4).length = len at *
      have HI2 := Lib.hid HI
      clear HI
      go_wp2_with (first
        | (go_at_call 55; (with_reducible refine HF1.out.mono ?_); rintro e w1 ⟨rfl, rfl⟩)
        | (go_at_call 55; (with_reducible refine HF2.out.mono ?_); rintro e w1 ⟨rfl, rfl⟩))
      go_ret
      exact ⟨ret_int (by have := HI2.out; rw [IntWalk.i64_left] at this; first | exact this | (rw [IntWalk.i64_left]; exact this)), hbl⟩
end Go.Proofs.Ytehniblcodkmaaa
