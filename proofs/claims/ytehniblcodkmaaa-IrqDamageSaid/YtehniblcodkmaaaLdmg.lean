/-
  The walk of IrqDamage (printed by gen/mk15dmg.py).
-/
import Derived.Test.YtehniblcodkmaaaLmsg
import Derived.Test.YtehniblcodkmaaaSumSpec2
namespace Go.Proofs.Ytehniblcodkmaaa
open Go.RowKit

theorem word_emod (a b : Int) (h : a % 18446744073709551616 = b % 18446744073709551616) : Sum.word a = Sum.word b := by unfold Sum.word; rw [h]
theorem word_bv (n : Int) : (Sum.word n).toBitVec = BitVec.ofInt 64 n := by
  apply BitVec.eq_of_toNat_eq
  rw [BitVec.toNat_ofInt]
  show (Sum.word n).toNat = _
  unfold Sum.word
  rw [UInt64.toNat_ofNat', Nat.mod_eq_of_lt (by omega)]
  rfl
theorem word_nat (b : BitVec 64) : Sum.word (b.toNat : Int) = UInt64.ofBitVec b := by
  apply UInt64.toNat_inj.1
  unfold Sum.word
  have := b.isLt
  rw [UInt64.toNat_ofNat', UInt64.toNat_ofBitVec]
  omega
theorem wrap64_emod (n : Int) : wrap64 n % 18446744073709551616 = n % 18446744073709551616 := by unfold wrap64; omega
theorem word_xor (d : Int) (c : UInt8) (j : Nat) : Sum.word (bits BinOp.xor IntKind.i64 d (wrap64 (IntKind.u64.wrap ((c.toNat : Int) * 2 ^ (8 * j))))) = Sum.word d ^^^ UInt64.ofNat (c.toNat * 256 ^ j) := by
  have hc := c.toNat_lt
  have hv : Sum.word (wrap64 (IntKind.u64.wrap ((c.toNat : Int) * 2 ^ (8 * j)))) = UInt64.ofNat (c.toNat * 256 ^ j) := by
    rw [word_emod _ ((c.toNat * 256 ^ j : Nat) : Int)]
    · unfold Sum.word
      apply UInt64.toNat_inj.1
      rw [UInt64.toNat_ofNat', UInt64.toNat_ofNat']
      omega
    · rw [wrap64_emod, wrap_u64]
      have : ((c.toNat : Int) * 2 ^ (8 * j)) = ((c.toNat * 256 ^ j : Nat) : Int) := by
        rw [show (256 : Nat) = 2 ^ 8 from rfl, ← Nat.pow_mul]
        push_cast
        rfl
      rw [this]
      omega
  rw [← hv]
  generalize wrap64 (IntKind.u64.wrap ((c.toNat : Int) * 2 ^ (8 * j))) = v
  show Sum.word (IntKind.i64.wrap ((BitVec.ofInt 64 d ^^^ BitVec.ofInt 64 v).toNat : Int)) = _
  rw [IntWalk.i64_left, word_emod _ _ (wrap64_emod _), word_nat]
  apply UInt64.toBitVec_inj.1
  rw [UInt64.toBitVec_xor, word_bv, word_bv]

set_option maxRecDepth 100000 in
set_option maxHeartbeats 8000000 in
theorem ldmg_w {w : World} {v0 v1 : Value} (h0 : IsLine w v0) (h1 : IsChange w v1) :
    Calls Try.prog 9 #[v0, v1] w fun e w' => e = .returned (.bool true) ∧ Below w.heap.size w w' := by
  obtain ⟨⟨d, t, n, xs⟩, ⟨ux, rfl, hxs⟩, -⟩ := h0
  obtain ⟨ca, cj, cv, rfl⟩ := h1
  simp only at hxs ⊢
  unfold eb
  have hca := ca.toNat_lt
  have hcj := cj.toNat_lt
  have hcv := cv.toNat_lt
  obtain ⟨ax, cx, rfl, -⟩ := id hxs
  have HXS := Lib.hid hxs
  clear hxs
  have hk0 : Keeps w [(w.heap.size + 1, 75, [.int .u8 (ca.toNat : Int), .int .u8 (cj.toNat : Int), .int .u8 (cv.toNat : Int)]), (w.heap.size, 37, [.int .i64 d, .int .i64 t, .int .i64 n, .slice ax xs.length cx])] ((w.alloc (.cells #[.int .i64 d, .int .i64 t, .int .i64 n, .slice ax xs.length cx] 37 (0, 0))).alloc (.cells #[.int .u8 (ca.toNat : Int), .int .u8 (cj.toNat : Int), .int .u8 (cv.toNat : Int)] 75 (0, 0))) := ((Keeps.start w).add 37 [.int .i64 d, .int .i64 t, .int .i64 n, .slice ax xs.length cx] rfl).add 75 [.int .u8 (ca.toNat : Int), .int .u8 (cj.toNat : Int), .int .u8 (cv.toNat : Int)] (by simp)
  have HC0 : Hid (∀ W, Keeps w [(w.heap.size + 1, 75, [.int .u8 (ca.toNat : Int), .int .u8 (cj.toNat : Int), .int .u8 (cv.toNat : Int)]), (w.heap.size, 37, [.int .i64 d, .int .i64 t, .int .i64 n, .slice ax xs.length cx])] W → (W.cell? ⟨w.heap.size, 0, none⟩ = some (.int .i64 d) ∧ W.cell? ⟨w.heap.size, 1, none⟩ = some (.int .i64 t) ∧ W.cell? ⟨w.heap.size, 2, none⟩ = some (.int .i64 n) ∧ W.cell? ⟨w.heap.size, 3, none⟩ = some (.slice ax xs.length cx)) ∧ (W.cell? ⟨w.heap.size + 1, 0, none⟩ = some (.int .u8 (ca.toNat : Int)) ∧ W.cell? ⟨w.heap.size + 1, 1, none⟩ = some (.int .u8 (cj.toNat : Int)) ∧ W.cell? ⟨w.heap.size + 1, 2, none⟩ = some (.int .u8 (cv.toNat : Int)))) := fun W hW => by
    have e1 := hW.2 _ (.head _)
    have e0 := hW.2 _ (.tail _ (.head _))
    exact ⟨⟨e0.cell 0, e0.cell 1, e0.cell 2, e0.cell 3⟩, e1.cell 0, e1.cell 1, e1.cell 2⟩
  have HK0 := Lib.hid hk0
  clear hk0
  have HP : Hid (∀ W, Below w.heap.size w W → Calls Try.prog 19 #[.agg #[.int .i64 d, .int .i64 t, .int .i64 n, .slice ax xs.length cx]] W fun e w' => e = .returned (.bool (Iq.proper (d, t, n, xs))) ∧ Below W.heap.size W w') := fun W hW => rproper_w (l := (d, t, n, xs)) ⟨_, rfl, HXS.out.below hW (Nat.le_refl _)⟩
  cases hp : Iq.proper (d, t, n, xs) with
  | false =>
    rw [hp] at HP
    clear hp
    go_enter Try.func9, Try.ntmps9
    go_wp2_with (first
      | (go_at_call 19; (with_reducible refine (HP.out _ hk1.lo).mono ?_); rintro e w2 ⟨rfl, hb2⟩; have hk2 := hk1.step hb2; have tok := True.intro)
      | (go_at_call 10; have _t := tok; refine (awake_w w2).mono ?_; rintro e w3 ⟨rfl, hb3⟩)
      | (go_at_call 10; refine (awake_w _).mono ?_; rintro e w1 ⟨rfl, hb1⟩; have hk1 := HK0.out.step hb1; obtain ⟨⟨qx0, qx1, qx2, qx3⟩, -⟩ := HC0.out _ hk1))
    go_ret
    exact ⟨rfl, (hk2.step hb3).1⟩
  | true =>
    rw [hp] at HP
    have h128 := (Iq.proper_iff.1 hp).2.2.2
    simp only at h128
    obtain ⟨an, han⟩ : ∃ a, Sum.answer d t n xs = a := ⟨_, rfl⟩
    obtain ⟨dr, hdr⟩ : ∃ a, (Iq.driver d).1 = a := ⟨_, rfl⟩
    have hms : msgS d t n xs = ((dr, 3, d, t, n, an, xs), 0) := by unfold msgS; rw [if_pos hp, hdr, han]
    have hrd : readS 3 d t n an xs = ((d, t, n, xs), 0) := readS_ok (by rw [han]; simp) hp
    have HMA : Hid (∀ W, Below w.heap.size w W → Calls Try.prog 29 #[.agg #[.int .i64 d, .int .i64 t, .int .i64 n, .slice ax xs.length cx]] W fun e w' => ∃ a k, e = .returned (.tuple #[.agg #[.int .i64 0, .int .i64 dr, .int .i64 3, .int .i64 0, .int .i64 d, .int .i64 t, .int .i64 n, .int .i64 an, .slice a xs.length k], .int .i64 0]) ∧ w'.ownsRow W.heap.size 5 1 (.slice a xs.length k) xs.length (xs.map eb) ∧ Below W.heap.size W w') := fun W hW => (message_w d t n (HXS.out.below hW (Nat.le_refl _))).mono fun _ _ h => h.o hms
    have HAN := Lib.hid han
    clear hms hdr hp han
    go_enter Try.func9, Try.ntmps9
    go_upto_region 4 with (first
      | (go_at_call 19; (with_reducible refine (HP.out _ hk1.lo).mono ?_); rintro e w2 ⟨rfl, hb2⟩; have hk2 := hk1.step hb2; clear qx0 qx1 qx2 qx3; obtain ⟨⟨qx0, qx1, qx2, qx3⟩, -⟩ := HC0.out _ hk2)
      | (go_at_call 29; (with_reducible refine (HMA.out _ hk2.lo).mono ?_); rintro e w3 ⟨aM, kM, rfl, hoM, hb3⟩)
      | (go_at_call 10; refine (awake_w _).mono ?_; rintro e w1 ⟨rfl, hb1⟩; have hk1 := HK0.out.step hb1; obtain ⟨⟨qx0, qx1, qx2, qx3⟩, -⟩ := HC0.out _ hk1))
    have hk3 : Keeps w ((w3.heap.size, 64, [.int .i64 0, .int .i64 dr, .int .i64 3, .int .i64 0, .int .i64 d, .int .i64 t, .int .i64 n, .int .i64 an, .slice aM xs.length kM]) :: [(w.heap.size + 1, 75, [.int .u8 (ca.toNat : Int), .int .u8 (cj.toNat : Int), .int .u8 (cv.toNat : Int)]), (w.heap.size, 37, [.int .i64 d, .int .i64 t, .int .i64 n, .slice ax xs.length cx])]) (w3.alloc (.cells #[.int .i64 0, .int .i64 dr, .int .i64 3, .int .i64 0, .int .i64 d, .int .i64 t, .int .i64 n, .int .i64 an, .slice aM xs.length kM] 64 (0, 0))) := ((hk2.step hb3)).add 64 [.int .i64 0, .int .i64 dr, .int .i64 3, .int .i64 0, .int .i64 d, .int .i64 t, .int .i64 n, .int .i64 an, .slice aM xs.length kM] rfl
    have hgM : ∀ g, (Value.slice aM xs.length kM).ownBlock = some g → w.heap.size + 1 < g ∧ g < w3.heap.size := fun g hg => by
      have h1 := hoM.lt g hg
      have h2 := (HK0.out.step hb1).1.size
      have h3 := HK0.out.1.size
      have h4 := (hk1.2 _ (.head _)).lt
      have h5 := hb2.size
      simp only at h4
      omega
    have hoM3 : (w3.alloc (.cells #[.int .i64 0, .int .i64 dr, .int .i64 3, .int .i64 0, .int .i64 d, .int .i64 t, .int .i64 n, .int .i64 an, .slice aM xs.length kM] 64 (0, 0))).ownsRow w2.heap.size 5 1 (.slice aM xs.length kM) xs.length (xs.map eb) := own_keep hoM fun k hk => Below.heap_alloc _ _ k (hoM.lt k hk).2
    generalize hW3 : w3.alloc (.cells #[.int .i64 0, .int .i64 dr, .int .i64 3, .int .i64 0, .int .i64 d, .int .i64 t, .int .i64 n, .int .i64 an, .slice aM xs.length kM] 64 (0, 0)) = W3 at *
    generalize hbM : w3.heap.size = bM at *
    have hwM : w.heap.size + 1 < bM := by
      have h1 := (hk1.2 _ (.head _)).lt
      have h2 := hb2.size
      have h3 := hb3.size
      simp only at h1
      omega
    clear qx0 qx1 qx2 qx3 hk1 hk2 hb1 hb2 hoM hb3 hW3
    have HRM : Hid (∀ W, Below W3.heap.size W3 W → Calls Try.prog 31 #[.agg #[.int .i64 0, .int .i64 dr, .int .i64 3, .int .i64 0, .int .i64 d, .int .i64 t, .int .i64 n, .int .i64 an, .slice aM xs.length kM]] W fun e w' => ∃ a k, e = .returned (.tuple #[.agg #[.int .i64 d, .int .i64 t, .int .i64 n, .slice a xs.length k], .int .i64 0]) ∧ Sl eb w' (.slice a xs.length k) xs ∧ Below W.heap.size W w') := fun W hW => (read_w 0 dr 3 0 d t n an ((Sl.ofOwn hoM3).below hW (Nat.le_refl _)) (by omega)).mono fun _ _ h => h.o hrd
    have hm3 := hk3.2 _ (.head _)
    obtain ⟨qm0, qm1, qm2, qm3, qm4, qm5, qm6, qm7, qm8⟩ : W3.cell? ⟨bM, 0, none⟩ = some (.int .i64 0) ∧ W3.cell? ⟨bM, 1, none⟩ = some (.int .i64 dr) ∧ W3.cell? ⟨bM, 2, none⟩ = some (.int .i64 3) ∧ W3.cell? ⟨bM, 3, none⟩ = some (.int .i64 0) ∧ W3.cell? ⟨bM, 4, none⟩ = some (.int .i64 d) ∧ W3.cell? ⟨bM, 5, none⟩ = some (.int .i64 t) ∧ W3.cell? ⟨bM, 6, none⟩ = some (.int .i64 n) ∧ W3.cell? ⟨bM, 7, none⟩ = some (.int .i64 an) ∧ W3.cell? ⟨bM, 8, none⟩ = some (.slice aM xs.length kM) := ⟨hm3.cell 0, hm3.cell 1, hm3.cell 2, hm3.cell 3, hm3.cell 4, hm3.cell 5, hm3.cell 6, hm3.cell 7, hm3.cell 8⟩
    go_upto_region 5 with (go_at_call 31; (with_reducible refine (HRM.out _ (low_refl W3)).mono ?_); rintro e w4 ⟨aY, kY, rfl, hsY, hb4⟩)
    have hk4 : Keeps w ((w4.heap.size, 38, [.int .i64 d, .int .i64 t, .int .i64 n, .slice aY xs.length kY]) :: (bM, 64, [.int .i64 0, .int .i64 dr, .int .i64 3, .int .i64 0, .int .i64 d, .int .i64 t, .int .i64 n, .int .i64 an, .slice aM xs.length kM]) :: [(w.heap.size + 1, 75, [.int .u8 (ca.toNat : Int), .int .u8 (cj.toNat : Int), .int .u8 (cv.toNat : Int)]), (w.heap.size, 37, [.int .i64 d, .int .i64 t, .int .i64 n, .slice ax xs.length cx])]) (w4.alloc (.cells #[.int .i64 d, .int .i64 t, .int .i64 n, .slice aY xs.length kY] 38 (0, 0))) := (hk3.step hb4).add 38 [.int .i64 d, .int .i64 t, .int .i64 n, .slice aY xs.length kY] rfl
    have hY : Below W3.heap.size W3 (w4.alloc (.cells #[.int .i64 d, .int .i64 t, .int .i64 n, .slice aY xs.length kY] 38 (0, 0))) := stepAny hb4 (low_alloc _ _)
    have hoM4 := own_keep hoM3 fun k hk => hY.block k (hoM3.lt k hk).2
    have hsY4 := hsY.below (low_alloc w4 (.cells #[.int .i64 d, .int .i64 t, .int .i64 n, .slice aY xs.length kY] 38 (0, 0))) (Nat.le_refl _)
    generalize w4.alloc (.cells #[.int .i64 d, .int .i64 t, .int .i64 n, .slice aY xs.length kY] 38 (0, 0)) = W4 at *
    generalize w4.heap.size = bY at *
    clear qm0 qm1 qm2 qm3 qm4 qm5 qm6 qm7 qm8 hm3 hk3 hb4 hsY hY hoM3
    have HSL : Hid (∀ W, Below W4.heap.size W4 W → Calls Try.prog 16 #[.agg #[.int .i64 d, .int .i64 t, .int .i64 n, .slice aY xs.length kY], .agg #[.int .i64 d, .int .i64 t, .int .i64 n, .slice ax xs.length cx]] W fun e w' => e = .returned (.bool true) ∧ Below W.heap.size W w') := fun W hW =>
      (sameLine_w (x := (d, t, n, xs)) (y := (d, t, n, xs)) ⟨_, rfl, hsY4.below hW (Nat.le_refl _)⟩ ⟨_, rfl, HXS.out.below (stepAny hk4.1 hW) (Nat.le_refl _)⟩).mono fun _ _ h => ⟨by rw [h.1]; simp, h.2⟩
    have HC4 : Hid (∀ W, Below W4.heap.size W4 W → (W.cell? ⟨w.heap.size, 0, none⟩ = some (.int .i64 d) ∧ W.cell? ⟨w.heap.size, 1, none⟩ = some (.int .i64 t) ∧ W.cell? ⟨w.heap.size, 2, none⟩ = some (.int .i64 n) ∧ W.cell? ⟨w.heap.size, 3, none⟩ = some (.slice ax xs.length cx)) ∧ (W.cell? ⟨w.heap.size + 1, 0, none⟩ = some (.int .u8 (ca.toNat : Int)) ∧ W.cell? ⟨w.heap.size + 1, 1, none⟩ = some (.int .u8 (cj.toNat : Int)) ∧ W.cell? ⟨w.heap.size + 1, 2, none⟩ = some (.int .u8 (cv.toNat : Int))) ∧ (W.cell? ⟨bM, 0, none⟩ = some (.int .i64 0) ∧ W.cell? ⟨bM, 1, none⟩ = some (.int .i64 dr) ∧ W.cell? ⟨bM, 2, none⟩ = some (.int .i64 3) ∧ W.cell? ⟨bM, 3, none⟩ = some (.int .i64 0) ∧ W.cell? ⟨bM, 4, none⟩ = some (.int .i64 d) ∧ W.cell? ⟨bM, 5, none⟩ = some (.int .i64 t) ∧ W.cell? ⟨bM, 6, none⟩ = some (.int .i64 n) ∧ W.cell? ⟨bM, 7, none⟩ = some (.int .i64 an) ∧ W.cell? ⟨bM, 8, none⟩ = some (.slice aM xs.length kM)) ∧ (W.cell? ⟨bY, 0, none⟩ = some (.int .i64 d) ∧ W.cell? ⟨bY, 1, none⟩ = some (.int .i64 t) ∧ W.cell? ⟨bY, 2, none⟩ = some (.int .i64 n) ∧ W.cell? ⟨bY, 3, none⟩ = some (.slice aY xs.length kY)) ∧ W.frozen? ⟨bM, 4, none⟩ = false ∧ W.frozen? ⟨bM, 5, none⟩ = false ∧ W.frozen? ⟨bM, 6, none⟩ = false) := fun W hW => by
      have hk := hk4.step hW
      have eY := hk.2 _ (.head _)
      have eM := hk.2 _ (.tail _ (.head _))
      have e1 := hk.2 _ (.tail _ (.tail _ (.head _)))
      have e0 := hk.2 _ (.tail _ (.tail _ (.tail _ (.head _))))
      exact ⟨⟨e0.cell 0, e0.cell 1, e0.cell 2, e0.cell 3⟩, ⟨e1.cell 0, e1.cell 1, e1.cell 2⟩, ⟨eM.cell 0, eM.cell 1, eM.cell 2, eM.cell 3, eM.cell 4, eM.cell 5, eM.cell 6, eM.cell 7, eM.cell 8⟩, ⟨eY.cell 0, eY.cell 1, eY.cell 2, eY.cell 3⟩, eM.frozen 4, eM.frozen 5, eM.frozen 6⟩
    obtain ⟨⟨qx0, qx1, qx2, qx3⟩, ⟨qc0, qc1, qc2⟩, ⟨qm0, qm1, qm2, qm3, qm4, qm5, qm6, qm7, qm8⟩, ⟨qy0, qy1, qy2, qy3⟩, -⟩ := HC4.out _ (low_refl W4)
    go_upto_region 7 with (go_at_call 16; (with_reducible refine (HSL.out _ (low_refl W4)).mono ?_); rintro e w5 ⟨rfl, hb5⟩; clear qx0 qx1 qx2 qx3 qc0 qc1 qc2 qm0 qm1 qm2 qm3 qm4 qm5 qm6 qm7 qm8 qy0 qy1 qy2 qy3; obtain ⟨⟨qx0, qx1, qx2, qx3⟩, ⟨qc0, qc1, qc2⟩, ⟨qm0, qm1, qm2, qm3, qm4, qm5, qm6, qm7, qm8⟩, ⟨qy0, qy1, qy2, qy3⟩, f4, f5, f6⟩ := HC4.out w5 hb5)
    have hk5 := hk4.step hb5
    have hoM5 := own_keep hoM4 fun k hk => hb5.block k (hoM4.lt k hk).2
    clear hk4 hsY4 hoM4
    have h4 : ca.toNat % 4 = 0 ∨ ca.toNat % 4 = 1 ∨ ca.toNat % 4 = 2 ∨ ca.toNat % 4 = 3 := by omega
    rcases h4 with h4 | h4 | h4 | h4
    · have hrem : ((ca.toNat : Int)).tmod 4 = 0 := by rw [Int.tmod_eq_emod_of_nonneg (by omega)]; omega
      obtain ⟨j, hj8, hjm⟩ : ∃ j : Nat, j < 8 ∧ ((cj.toNat : Int)).tmod 8 = (j : Int) := ⟨cj.toNat % 8, by omega, by rw [Int.tmod_eq_emod_of_nonneg (by omega)]; omega⟩
      have hwj : IntKind.u8.wrap (8 * (j : Int)) = ((8 * j : Nat) : Int) := by simp [IntKind.wrap, IntKind.bits, IntKind.signed]; omega
      have hne1 : w.heap.size + 1 ≠ bM := by omega
      go_upto_region 9 with fail
      have q1 : w5.drew.cell? ⟨bM, 4, none⟩ = some (.int .i64 d) := qm4
      have q2 : w5.drew.cell? ⟨w.heap.size + 1, 1, none⟩ = some (.int .u8 (cj.toNat : Int)) := qc1
      have q3 : w5.drew.cell? ⟨w.heap.size + 1, 2, none⟩ = some (.int .u8 (cv.toNat : Int)) := qc2
      have g4 : w5.drew.frozen? ⟨bM, 4, none⟩ = false := f4
      go_region
      have hX := word_xor d cv j
      generalize bits BinOp.xor IntKind.i64 d (wrap64 (IntKind.u64.wrap ((cv.toNat : Int) * 2 ^ (8 * j)))) = dx at *
      have HX := Lib.hid hX
      clear hX q1 q2 q3 g4
      have hm6 : Bk (w5.setCell ⟨bM, 4, none⟩ (.int .i64 dx)).drew bM 64 [.int .i64 0, .int .i64 dr, .int .i64 3, .int .i64 0, .int .i64 dx, .int .i64 t, .int .i64 n, .int .i64 an, .slice aM xs.length kM] := (hk5.2 _ (.tail _ (.head _))).set 4 _
      have hc6 : Bk (w5.setCell ⟨bM, 4, none⟩ (.int .i64 dx)).drew (w.heap.size + 1) 75 [.int .u8 (ca.toNat : Int), .int .u8 (cj.toNat : Int), .int .u8 (cv.toNat : Int)] := (hk5.2 _ (.tail _ (.tail _ (.head _)))).far hne1 _
      have hl6 : Below w.heap.size w (w5.setCell ⟨bM, 4, none⟩ (.int .i64 dx)).drew := (hk5.1.setCell (by show w.heap.size ≤ bM; omega) _).drew
      have ho6 : (w5.setCell ⟨bM, 4, none⟩ (.int .i64 dx)).drew.ownsRow w2.heap.size 5 1 (.slice aM xs.length kM) xs.length (xs.map eb) := own_keep hoM5 fun k hk => Below.heap_setCell _ _ _ _ (by have := hgM k hk; show k ≠ bM; omega)
      generalize (w5.setCell ⟨bM, 4, none⟩ (.int .i64 dx)).drew = W6 at *
      obtain ⟨⟨x0, x1, x2, us⟩, g, hrd⟩ : ∃ (s : Iq.Ln) (c : Int), readS 3 dx t n an xs = (s, c) := ⟨_, _, rfl⟩
      have hgg : cv ≠ 0 → g = 5 := fun hcv0 => by
        have hne := Sum.answer_ne0 (d := d) (t := t) (a := n) (b := xs) hj8 hcv0 HX.out
        rw [HAN.out] at hne
        rw [readS_sum (by simpa using hne)] at hrd
        injection hrd with _ h2
        exact h2.symm
      have HRX : Hid (Calls Try.prog 31 #[.agg #[.int .i64 0, .int .i64 dr, .int .i64 3, .int .i64 0, .int .i64 dx, .int .i64 t, .int .i64 n, .int .i64 an, .slice aM xs.length kM]] W6 fun e w' => ∃ a k, e = .returned (.tuple #[.agg #[.int .i64 x0, .int .i64 x1, .int .i64 x2, .slice a us.length k], .int .i64 g]) ∧ Sl eb w' (.slice a us.length k) us ∧ Below W6.heap.size W6 w') := (read_w 0 dr 3 0 dx t n an (Sl.ofOwn ho6) (by omega)).mono fun _ _ h => h.o hrd
      have HGG := Lib.hid hgg
      clear hgg hrd hk5 hoM5 qx0 qx1 qx2 qx3 qc0 qc1 qc2 qm0 qm1 qm2 qm3 qm4 qm5 qm6 qm7 qm8 qy0 qy1 qy2 qy3 f4 f5 f6 hrem hwj hjm hj8 h4
      obtain ⟨qm0, qm1, qm2, qm3, qm4, qm5, qm6, qm7, qm8⟩ : W6.cell? ⟨bM, 0, none⟩ = some (.int .i64 0) ∧ W6.cell? ⟨bM, 1, none⟩ = some (.int .i64 dr) ∧ W6.cell? ⟨bM, 2, none⟩ = some (.int .i64 3) ∧ W6.cell? ⟨bM, 3, none⟩ = some (.int .i64 0) ∧ W6.cell? ⟨bM, 4, none⟩ = some (.int .i64 dx) ∧ W6.cell? ⟨bM, 5, none⟩ = some (.int .i64 t) ∧ W6.cell? ⟨bM, 6, none⟩ = some (.int .i64 n) ∧ W6.cell? ⟨bM, 7, none⟩ = some (.int .i64 an) ∧ W6.cell? ⟨bM, 8, none⟩ = some (.slice aM xs.length kM) := ⟨hm6.cell 0, hm6.cell 1, hm6.cell 2, hm6.cell 3, hm6.cell 4, hm6.cell 5, hm6.cell 6, hm6.cell 7, hm6.cell 8⟩
      by_cases hcv0 : cv = 0
      · subst hcv0
        have hz : (((0 : UInt8).toNat : Int) == 0) = true := rfl
        go_wp2_with (go_at_call 31; (with_reducible refine HRX.out.mono ?_); rintro e w7 ⟨a7, k7, rfl, -, hb7⟩; have hc7 := (hc6.below hb7 hc6.lt).cell 2; simp only [List.getElem?_cons_succ, List.getElem?_cons_zero] at hc7; have hs7 : w.heap.size + 1 < w7.heap.size := (by have := hc6.lt; have := hb7.size; omega))
        go_ret
        exact ⟨rfl, (stepAny hl6 hb7).alloc (by have := (stepAny hl6 hb7).size; omega) _⟩
      · obtain rfl := HGG.out hcv0
        have hz : ((cv.toNat : Int) == 0) = false := by
          rw [beq_eq_false_iff_ne]
          intro h
          apply hcv0
          apply UInt8.toNat_inj.1
          simp only [UInt8.toNat_zero]
          omega
        go_wp2_with (go_at_call 31; (with_reducible refine HRX.out.mono ?_); rintro e w7 ⟨a7, k7, rfl, -, hb7⟩; have hc7 := (hc6.below hb7 hc6.lt).cell 2; simp only [List.getElem?_cons_succ, List.getElem?_cons_zero] at hc7; have hs7 : w.heap.size + 1 < w7.heap.size := (by have := hc6.lt; have := hb7.size; omega))
        go_ret
        exact ⟨rfl, (stepAny hl6 hb7).alloc (by have := (stepAny hl6 hb7).size; omega) _⟩
    · have hrem : ((ca.toNat : Int)).tmod 4 = 1 := by rw [Int.tmod_eq_emod_of_nonneg (by omega)]; omega
      obtain ⟨j, hj8, hjm⟩ : ∃ j : Nat, j < 8 ∧ ((cj.toNat : Int)).tmod 8 = (j : Int) := ⟨cj.toNat % 8, by omega, by rw [Int.tmod_eq_emod_of_nonneg (by omega)]; omega⟩
      have hwj : IntKind.u8.wrap (8 * (j : Int)) = ((8 * j : Nat) : Int) := by simp [IntKind.wrap, IntKind.bits, IntKind.signed]; omega
      have hne1 : w.heap.size + 1 ≠ bM := by omega
      go_upto_region 9 with fail
      have q1 : w5.drew.cell? ⟨bM, 5, none⟩ = some (.int .i64 t) := qm5
      have q2 : w5.drew.cell? ⟨w.heap.size + 1, 1, none⟩ = some (.int .u8 (cj.toNat : Int)) := qc1
      have q3 : w5.drew.cell? ⟨w.heap.size + 1, 2, none⟩ = some (.int .u8 (cv.toNat : Int)) := qc2
      have g4 : w5.drew.frozen? ⟨bM, 5, none⟩ = false := f5
      go_region
      have hX := word_xor t cv j
      generalize bits BinOp.xor IntKind.i64 t (wrap64 (IntKind.u64.wrap ((cv.toNat : Int) * 2 ^ (8 * j)))) = dx at *
      have HX := Lib.hid hX
      clear hX q1 q2 q3 g4
      have hm6 : Bk (w5.setCell ⟨bM, 5, none⟩ (.int .i64 dx)).drew bM 64 [.int .i64 0, .int .i64 dr, .int .i64 3, .int .i64 0, .int .i64 d, .int .i64 dx, .int .i64 n, .int .i64 an, .slice aM xs.length kM] := (hk5.2 _ (.tail _ (.head _))).set 5 _
      have hc6 : Bk (w5.setCell ⟨bM, 5, none⟩ (.int .i64 dx)).drew (w.heap.size + 1) 75 [.int .u8 (ca.toNat : Int), .int .u8 (cj.toNat : Int), .int .u8 (cv.toNat : Int)] := (hk5.2 _ (.tail _ (.tail _ (.head _)))).far hne1 _
      have hl6 : Below w.heap.size w (w5.setCell ⟨bM, 5, none⟩ (.int .i64 dx)).drew := (hk5.1.setCell (by show w.heap.size ≤ bM; omega) _).drew
      have ho6 : (w5.setCell ⟨bM, 5, none⟩ (.int .i64 dx)).drew.ownsRow w2.heap.size 5 1 (.slice aM xs.length kM) xs.length (xs.map eb) := own_keep hoM5 fun k hk => Below.heap_setCell _ _ _ _ (by have := hgM k hk; show k ≠ bM; omega)
      generalize (w5.setCell ⟨bM, 5, none⟩ (.int .i64 dx)).drew = W6 at *
      obtain ⟨⟨x0, x1, x2, us⟩, g, hrd⟩ : ∃ (s : Iq.Ln) (c : Int), readS 3 d dx n an xs = (s, c) := ⟨_, _, rfl⟩
      have hgg : cv ≠ 0 → g = 5 := fun hcv0 => by
        have hne := Sum.answer_ne1 (d := d) (t := t) (a := n) (b := xs) hj8 hcv0 HX.out
        rw [HAN.out] at hne
        rw [readS_sum (by simpa using hne)] at hrd
        injection hrd with _ h2
        exact h2.symm
      have HRX : Hid (Calls Try.prog 31 #[.agg #[.int .i64 0, .int .i64 dr, .int .i64 3, .int .i64 0, .int .i64 d, .int .i64 dx, .int .i64 n, .int .i64 an, .slice aM xs.length kM]] W6 fun e w' => ∃ a k, e = .returned (.tuple #[.agg #[.int .i64 x0, .int .i64 x1, .int .i64 x2, .slice a us.length k], .int .i64 g]) ∧ Sl eb w' (.slice a us.length k) us ∧ Below W6.heap.size W6 w') := (read_w 0 dr 3 0 d dx n an (Sl.ofOwn ho6) (by omega)).mono fun _ _ h => h.o hrd
      have HGG := Lib.hid hgg
      clear hgg hrd hk5 hoM5 qx0 qx1 qx2 qx3 qc0 qc1 qc2 qm0 qm1 qm2 qm3 qm4 qm5 qm6 qm7 qm8 qy0 qy1 qy2 qy3 f4 f5 f6 hrem hwj hjm hj8 h4
      obtain ⟨qm0, qm1, qm2, qm3, qm4, qm5, qm6, qm7, qm8⟩ : W6.cell? ⟨bM, 0, none⟩ = some (.int .i64 0) ∧ W6.cell? ⟨bM, 1, none⟩ = some (.int .i64 dr) ∧ W6.cell? ⟨bM, 2, none⟩ = some (.int .i64 3) ∧ W6.cell? ⟨bM, 3, none⟩ = some (.int .i64 0) ∧ W6.cell? ⟨bM, 4, none⟩ = some (.int .i64 d) ∧ W6.cell? ⟨bM, 5, none⟩ = some (.int .i64 dx) ∧ W6.cell? ⟨bM, 6, none⟩ = some (.int .i64 n) ∧ W6.cell? ⟨bM, 7, none⟩ = some (.int .i64 an) ∧ W6.cell? ⟨bM, 8, none⟩ = some (.slice aM xs.length kM) := ⟨hm6.cell 0, hm6.cell 1, hm6.cell 2, hm6.cell 3, hm6.cell 4, hm6.cell 5, hm6.cell 6, hm6.cell 7, hm6.cell 8⟩
      by_cases hcv0 : cv = 0
      · subst hcv0
        have hz : (((0 : UInt8).toNat : Int) == 0) = true := rfl
        go_wp2_with (go_at_call 31; (with_reducible refine HRX.out.mono ?_); rintro e w7 ⟨a7, k7, rfl, -, hb7⟩; have hc7 := (hc6.below hb7 hc6.lt).cell 2; simp only [List.getElem?_cons_succ, List.getElem?_cons_zero] at hc7; have hs7 : w.heap.size + 1 < w7.heap.size := (by have := hc6.lt; have := hb7.size; omega))
        go_ret
        exact ⟨rfl, (stepAny hl6 hb7).alloc (by have := (stepAny hl6 hb7).size; omega) _⟩
      · obtain rfl := HGG.out hcv0
        have hz : ((cv.toNat : Int) == 0) = false := by
          rw [beq_eq_false_iff_ne]
          intro h
          apply hcv0
          apply UInt8.toNat_inj.1
          simp only [UInt8.toNat_zero]
          omega
        go_wp2_with (go_at_call 31; (with_reducible refine HRX.out.mono ?_); rintro e w7 ⟨a7, k7, rfl, -, hb7⟩; have hc7 := (hc6.below hb7 hc6.lt).cell 2; simp only [List.getElem?_cons_succ, List.getElem?_cons_zero] at hc7; have hs7 : w.heap.size + 1 < w7.heap.size := (by have := hc6.lt; have := hb7.size; omega))
        go_ret
        exact ⟨rfl, (stepAny hl6 hb7).alloc (by have := (stepAny hl6 hb7).size; omega) _⟩
    · have hrem : ((ca.toNat : Int)).tmod 4 = 2 := by rw [Int.tmod_eq_emod_of_nonneg (by omega)]; omega
      obtain ⟨j, hj8, hjm⟩ : ∃ j : Nat, j < 8 ∧ ((cj.toNat : Int)).tmod 8 = (j : Int) := ⟨cj.toNat % 8, by omega, by rw [Int.tmod_eq_emod_of_nonneg (by omega)]; omega⟩
      have hwj : IntKind.u8.wrap (8 * (j : Int)) = ((8 * j : Nat) : Int) := by simp [IntKind.wrap, IntKind.bits, IntKind.signed]; omega
      have hne1 : w.heap.size + 1 ≠ bM := by omega
      go_upto_region 9 with fail
      have q1 : w5.drew.cell? ⟨bM, 6, none⟩ = some (.int .i64 n) := qm6
      have q2 : w5.drew.cell? ⟨w.heap.size + 1, 1, none⟩ = some (.int .u8 (cj.toNat : Int)) := qc1
      have q3 : w5.drew.cell? ⟨w.heap.size + 1, 2, none⟩ = some (.int .u8 (cv.toNat : Int)) := qc2
      have g4 : w5.drew.frozen? ⟨bM, 6, none⟩ = false := f6
      go_region
      have hX := word_xor n cv j
      generalize bits BinOp.xor IntKind.i64 n (wrap64 (IntKind.u64.wrap ((cv.toNat : Int) * 2 ^ (8 * j)))) = dx at *
      have HX := Lib.hid hX
      clear hX q1 q2 q3 g4
      have hm6 : Bk (w5.setCell ⟨bM, 6, none⟩ (.int .i64 dx)).drew bM 64 [.int .i64 0, .int .i64 dr, .int .i64 3, .int .i64 0, .int .i64 d, .int .i64 t, .int .i64 dx, .int .i64 an, .slice aM xs.length kM] := (hk5.2 _ (.tail _ (.head _))).set 6 _
      have hc6 : Bk (w5.setCell ⟨bM, 6, none⟩ (.int .i64 dx)).drew (w.heap.size + 1) 75 [.int .u8 (ca.toNat : Int), .int .u8 (cj.toNat : Int), .int .u8 (cv.toNat : Int)] := (hk5.2 _ (.tail _ (.tail _ (.head _)))).far hne1 _
      have hl6 : Below w.heap.size w (w5.setCell ⟨bM, 6, none⟩ (.int .i64 dx)).drew := (hk5.1.setCell (by show w.heap.size ≤ bM; omega) _).drew
      have ho6 : (w5.setCell ⟨bM, 6, none⟩ (.int .i64 dx)).drew.ownsRow w2.heap.size 5 1 (.slice aM xs.length kM) xs.length (xs.map eb) := own_keep hoM5 fun k hk => Below.heap_setCell _ _ _ _ (by have := hgM k hk; show k ≠ bM; omega)
      generalize (w5.setCell ⟨bM, 6, none⟩ (.int .i64 dx)).drew = W6 at *
      obtain ⟨⟨x0, x1, x2, us⟩, g, hrd⟩ : ∃ (s : Iq.Ln) (c : Int), readS 3 d t dx an xs = (s, c) := ⟨_, _, rfl⟩
      have hgg : cv ≠ 0 → g = 5 := fun hcv0 => by
        have hne := Sum.answer_ne2 (d := d) (t := t) (a := n) (b := xs) hj8 hcv0 HX.out
        rw [HAN.out] at hne
        rw [readS_sum (by simpa using hne)] at hrd
        injection hrd with _ h2
        exact h2.symm
      have HRX : Hid (Calls Try.prog 31 #[.agg #[.int .i64 0, .int .i64 dr, .int .i64 3, .int .i64 0, .int .i64 d, .int .i64 t, .int .i64 dx, .int .i64 an, .slice aM xs.length kM]] W6 fun e w' => ∃ a k, e = .returned (.tuple #[.agg #[.int .i64 x0, .int .i64 x1, .int .i64 x2, .slice a us.length k], .int .i64 g]) ∧ Sl eb w' (.slice a us.length k) us ∧ Below W6.heap.size W6 w') := (read_w 0 dr 3 0 d t dx an (Sl.ofOwn ho6) (by omega)).mono fun _ _ h => h.o hrd
      have HGG := Lib.hid hgg
      clear hgg hrd hk5 hoM5 qx0 qx1 qx2 qx3 qc0 qc1 qc2 qm0 qm1 qm2 qm3 qm4 qm5 qm6 qm7 qm8 qy0 qy1 qy2 qy3 f4 f5 f6 hrem hwj hjm hj8 h4
      obtain ⟨qm0, qm1, qm2, qm3, qm4, qm5, qm6, qm7, qm8⟩ : W6.cell? ⟨bM, 0, none⟩ = some (.int .i64 0) ∧ W6.cell? ⟨bM, 1, none⟩ = some (.int .i64 dr) ∧ W6.cell? ⟨bM, 2, none⟩ = some (.int .i64 3) ∧ W6.cell? ⟨bM, 3, none⟩ = some (.int .i64 0) ∧ W6.cell? ⟨bM, 4, none⟩ = some (.int .i64 d) ∧ W6.cell? ⟨bM, 5, none⟩ = some (.int .i64 t) ∧ W6.cell? ⟨bM, 6, none⟩ = some (.int .i64 dx) ∧ W6.cell? ⟨bM, 7, none⟩ = some (.int .i64 an) ∧ W6.cell? ⟨bM, 8, none⟩ = some (.slice aM xs.length kM) := ⟨hm6.cell 0, hm6.cell 1, hm6.cell 2, hm6.cell 3, hm6.cell 4, hm6.cell 5, hm6.cell 6, hm6.cell 7, hm6.cell 8⟩
      by_cases hcv0 : cv = 0
      · subst hcv0
        have hz : (((0 : UInt8).toNat : Int) == 0) = true := rfl
        go_wp2_with (go_at_call 31; (with_reducible refine HRX.out.mono ?_); rintro e w7 ⟨a7, k7, rfl, -, hb7⟩; have hc7 := (hc6.below hb7 hc6.lt).cell 2; simp only [List.getElem?_cons_succ, List.getElem?_cons_zero] at hc7; have hs7 : w.heap.size + 1 < w7.heap.size := (by have := hc6.lt; have := hb7.size; omega))
        go_ret
        exact ⟨rfl, (stepAny hl6 hb7).alloc (by have := (stepAny hl6 hb7).size; omega) _⟩
      · obtain rfl := HGG.out hcv0
        have hz : ((cv.toNat : Int) == 0) = false := by
          rw [beq_eq_false_iff_ne]
          intro h
          apply hcv0
          apply UInt8.toNat_inj.1
          simp only [UInt8.toNat_zero]
          omega
        go_wp2_with (go_at_call 31; (with_reducible refine HRX.out.mono ?_); rintro e w7 ⟨a7, k7, rfl, -, hb7⟩; have hc7 := (hc6.below hb7 hc6.lt).cell 2; simp only [List.getElem?_cons_succ, List.getElem?_cons_zero] at hc7; have hs7 : w.heap.size + 1 < w7.heap.size := (by have := hc6.lt; have := hb7.size; omega))
        go_ret
        exact ⟨rfl, (stepAny hl6 hb7).alloc (by have := (stepAny hl6 hb7).size; omega) _⟩
    · have hrem : ((ca.toNat : Int)).tmod 4 = 3 := by rw [Int.tmod_eq_emod_of_nonneg (by omega)]; omega
      by_cases hx0 : xs.length = 0
      · have hz : ((xs.length : Int) == 0) = true := by rw [hx0]; rfl
        clear hx0
        go_wp2_with fail
        go_ret
        exact ⟨rfl, hk5.1⟩
      · have hz : ((xs.length : Int) == 0) = false := by rw [beq_eq_false_iff_ne]; omega
        obtain ⟨g, cg, hvg⟩ := own_form hoM5 (by omega)
        injection hvg with e1 _ e3
        subst e1 e3
        obtain ⟨p, hp, hpm⟩ : ∃ p : Nat, p < xs.length ∧ ((cj.toNat : Int)).tmod (xs.length : Int) = (p : Int) := ⟨cj.toNat % xs.length, Nat.mod_lt _ (by omega), by rw [Int.tmod_eq_emod_of_nonneg (by omega)]; rfl⟩
        have f1 : (0 : Int) ≤ (p : Int) := by omega
        have f2 : (p : Int) < (xs.length : Int) := by omega
        have hgg := hgM g rfl
        have hcell : w5.cell? ⟨g, p, none⟩ = some (.int .u8 (xs[p].toNat : Int)) := by
          rw [hoM5.cellAt p (by omega), List.getElem?_map, List.getElem?_eq_getElem hp]
          rfl
        have hfz := hoM5.frozenAt p
        obtain ⟨ho, hho⟩ : ∃ o : UInt8, o = xs[p] := ⟨_, rfl⟩
        rw [← hho] at hcell
        have hne1 : w.heap.size + 1 ≠ g := by omega
        have hne2 : bM ≠ g := by omega
        have HHO := Lib.hid hho
        clear hho hx0
        go_upto_region 17 with fail
        have hm6 : Bk (w5.setCell ⟨g, p, none⟩ (.int .u8 (cv.toNat : Int))) bM 64 [.int .i64 0, .int .i64 dr, .int .i64 3, .int .i64 0, .int .i64 d, .int .i64 t, .int .i64 n, .int .i64 an, .slice (some ⟨g, 0, none⟩) xs.length kM] := (hk5.2 _ (.tail _ (.head _))).far hne2 _
        have hc6 : Bk (w5.setCell ⟨g, p, none⟩ (.int .u8 (cv.toNat : Int))) (w.heap.size + 1) 75 [.int .u8 (ca.toNat : Int), .int .u8 (cj.toNat : Int), .int .u8 (cv.toNat : Int)] := (hk5.2 _ (.tail _ (.tail _ (.head _)))).far hne1 _
        have hl6 : Below w.heap.size w (w5.setCell ⟨g, p, none⟩ (.int .u8 (cv.toNat : Int))) := hk5.1.setCell (by show w.heap.size ≤ g; omega) _
        have ho6 : (w5.setCell ⟨g, p, none⟩ (.int .u8 (cv.toNat : Int))).ownsRow w2.heap.size 5 1 (.slice (some ⟨g, 0, none⟩) xs.length kM) xs.length ((xs.set p cv).map eb) := by rw [List.map_set]; exact (hoM5.stored p (eb cv)).1
        generalize w5.setCell ⟨g, p, none⟩ (.int .u8 (cv.toNat : Int)) = W6 at *
        obtain ⟨⟨x0, x1, x2, us⟩, gr, hrd⟩ : ∃ (s : Iq.Ln) (c : Int), readS 3 d t n an (xs.set p cv) = (s, c) := ⟨_, _, rfl⟩
        have hgr : ho ≠ cv → gr = 5 := fun hcv0 => by
          have hne := Sum.answer_ned (d := d) (t := t) (a := n) (b := xs) (p := p) (c := cv) hp (by rw [← HHO.out]; exact hcv0)
          rw [HAN.out] at hne
          rw [readS_sum (by simpa using hne)] at hrd
          injection hrd with _ h2
          exact h2.symm
        have HRX : Hid (Calls Try.prog 31 #[.agg #[.int .i64 0, .int .i64 dr, .int .i64 3, .int .i64 0, .int .i64 d, .int .i64 t, .int .i64 n, .int .i64 an, .slice (some ⟨g, 0, none⟩) xs.length kM]] W6 fun e w' => ∃ a k, e = .returned (.tuple #[.agg #[.int .i64 x0, .int .i64 x1, .int .i64 x2, .slice a us.length k], .int .i64 gr]) ∧ Sl eb w' (.slice a us.length k) us ∧ Below W6.heap.size W6 w') := (read_w 0 dr 3 0 d t n an (Sl.ofOwn ho6) (by rw [List.length_set]; omega)).mono fun _ _ h => h.o hrd
        have HGG := Lib.hid hgr
        clear hgr hrd hk5 hoM5 qx0 qx1 qx2 qx3 qc0 qc1 qc2 qm0 qm1 qm2 qm3 qm4 qm5 qm6 qm7 qm8 qy0 qy1 qy2 qy3 f4 f5 f6 hrem h4 hcell hfz hpm hz f1 f2 ho6
        obtain ⟨qm0, qm1, qm2, qm3, qm4, qm5, qm6, qm7, qm8⟩ : W6.cell? ⟨bM, 0, none⟩ = some (.int .i64 0) ∧ W6.cell? ⟨bM, 1, none⟩ = some (.int .i64 dr) ∧ W6.cell? ⟨bM, 2, none⟩ = some (.int .i64 3) ∧ W6.cell? ⟨bM, 3, none⟩ = some (.int .i64 0) ∧ W6.cell? ⟨bM, 4, none⟩ = some (.int .i64 d) ∧ W6.cell? ⟨bM, 5, none⟩ = some (.int .i64 t) ∧ W6.cell? ⟨bM, 6, none⟩ = some (.int .i64 n) ∧ W6.cell? ⟨bM, 7, none⟩ = some (.int .i64 an) ∧ W6.cell? ⟨bM, 8, none⟩ = some (.slice (some ⟨g, 0, none⟩) xs.length kM) := ⟨hm6.cell 0, hm6.cell 1, hm6.cell 2, hm6.cell 3, hm6.cell 4, hm6.cell 5, hm6.cell 6, hm6.cell 7, hm6.cell 8⟩
        by_cases hcv0 : ho = cv
        · subst hcv0
          have hz : ((ho.toNat : Int) == (ho.toNat : Int)) = true := by simp
          go_wp2_with (go_at_call 31; (with_reducible refine HRX.out.mono ?_); rintro e w7 ⟨a7, k7, rfl, -, hb7⟩; have hc7 := (hc6.below hb7 hc6.lt).cell 2; simp only [List.getElem?_cons_succ, List.getElem?_cons_zero] at hc7; have hs7 : w.heap.size + 1 < w7.heap.size := (by have := hc6.lt; have := hb7.size; omega))
          go_ret
          exact ⟨rfl, (stepAny hl6 hb7).alloc (by have := (stepAny hl6 hb7).size; omega) _⟩
        · obtain rfl := HGG.out hcv0
          have hz : ((ho.toNat : Int) == (cv.toNat : Int)) = false := by
            rw [beq_eq_false_iff_ne]
            intro h
            apply hcv0
            apply UInt8.toNat_inj.1
            omega
          go_wp2_with (go_at_call 31; (with_reducible refine HRX.out.mono ?_); rintro e w7 ⟨a7, k7, rfl, -, hb7⟩; have hc7 := (hc6.below hb7 hc6.lt).cell 2; simp only [List.getElem?_cons_succ, List.getElem?_cons_zero] at hc7; have hs7 : w.heap.size + 1 < w7.heap.size := (by have := hc6.lt; have := hb7.size; omega))
          go_ret
          exact ⟨rfl, (stepAny hl6 hb7).alloc (by have := (stepAny hl6 hb7).size; omega) _⟩
end Go.Proofs.Ytehniblcodkmaaa
