/-
  The walks of Of of both, of number of the reference and of get.
-/
import Derived.Test.YtcbgablnbgpjdaaJb
import Derived.Test.YtcbgablnbgpjdaaSums
namespace Jr
theorem num_len (n : UInt64) (k : Nat) : (num n k).length = k := by unfold num; simp
theorem num_get (n : UInt64) (k j : Nat) (hj : j < k) : (num n k)[j]? = some (Sum.byte n (k - 1 - j)) := by
  unfold num
  rw [List.getElem?_reverse (by simpa using hj), List.length_map, List.length_range, List.getElem?_map, List.getElem?_range (by omega)]
  rfl
theorem num_step (n : UInt64) (k j : Nat) (hj : j < k) : (num n k).take (j + 1) = (num n k).take j ++ [Sum.byte n (k - 1 - j)] := by
  have h : j < (num n k).length := by rw [num_len]; exact hj
  rw [List.take_succ_eq_append_getElem h]
  have := num_get n k j hj
  rw [List.getElem?_eq_getElem h] at this
  rw [Option.some.inj this]
end Jr
namespace Go.Proofs.Ytcbgablnbgpjdaa
open Go.RowKit

theorem start_val : (Sum.start.toNat : Int) = 125762890854254 := by decide
theorem word_val (n : Int) : IntKind.u64.wrap n = ((Sum.word n).toNat : Int) := by
  rw [wrap_u64]
  unfold Sum.word
  rw [UInt64.toNat_ofNat']
  omega
theorem byte_of (h : UInt64) (k : Nat) : (h.toNat : Int) / 2 ^ (8 * k) % 256 = ((Sum.byte h k).toNat : Int) := by
  unfold Sum.byte
  have hp : (2 : Int) ^ (8 * k) = ((256 ^ k : Nat) : Int) := by
    rw [Int.pow_mul, Int.natCast_pow]
    rfl
  rw [hp, UInt8.toNat_ofNat']
  generalize 256 ^ k = q
  rfl

set_option maxHeartbeats 800000 in
theorem sof_w {v : Value} {xs : List UInt8} {w : World} (hv : Sl eb w v xs) : Calls Try.prog 43 #[v] w fun e w' => e = .returned (.int .u64 ((Sum.of xs).toNat : Int)) ∧ Below w.heap.size w w' := by
  obtain ⟨a, c, rfl, -⟩ := id hv
  have H1 : Hid (∀ W, Below w.heap.size w W → Calls Try.prog 50 #[.int .u64 125762890854254, .slice a xs.length c] W fun e w' => e = .returned (.int .u64 ((Sum.sum Sum.start xs).toNat : Int)) ∧ W = w') := fun W hW => by
    have := sfrom_w Sum.start (hv.below hW (Nat.le_refl _))
    rw [start_val] at this
    exact this
  have H2 : Hid (Calls Try.prog 51 #[.slice none 0 0, .int .i64 xs.length] w fun e w' => ∃ v', e = .returned v' ∧ w'.ownsRow w.heap.size 5 1 v' 8 ((Sum.eight xs.length).map eb) ∧ Below w.heap.size w w') := by
    have := eight_w w.heap.size (xs.length : Int) (v := .slice none 0 0) (xs := []) (w := w) (World.ownsRow_nil _ _ _ _) (Nat.le_refl _) (by simp)
    simp only [List.length_nil, Nat.zero_add, List.nil_append] at this
    exact this
  have hlen : ((Sum.eight xs.length).map eb).length = 8 := by unfold Sum.eight Sum.eightN; simp
  have H3 : Hid (∀ W v, Sl eb W v (Sum.eight xs.length) → Calls Try.prog 50 #[.int .u64 ((Sum.sum Sum.start xs).toNat : Int), v] W fun e w' => e = .returned (.int .u64 ((Sum.of xs).toNat : Int)) ∧ W = w') := fun W v h => sfrom_w _ h
  have H4 : Hid (∀ W v, W.ownsRow w.heap.size 5 1 v 8 ((Sum.eight xs.length).map eb) → Sl eb W v (Sum.eight xs.length)) := fun W v h => Sl.ofOwn (e := 5) (base := w.heap.size) (n := 8) h
  clear hv hlen
  generalize Sum.sum Sum.start xs = s at *
  generalize Sum.of xs = r at *
  generalize Sum.eight xs.length = ys at *
  go_enter Try.func43, Try.ntmps43
  go_wp2_with (first
    | (go_at_call 50; (with_reducible refine (H1.out _ (Below.refl _ _)).mono ?_); rintro e w1 ⟨rfl, rfl⟩)
    | (go_at_call 51; (with_reducible refine H2.out.mono ?_); rintro e w2 ⟨v2, rfl, ho2, hb2⟩)
    | (go_at_call 50; (with_reducible refine (H3.out _ _ (H4.out _ _ ho2)).mono ?_); rintro e w3 ⟨rfl, rfl⟩))
  go_ret
  exact ⟨rfl, hb2⟩

set_option maxHeartbeats 800000 in
theorem rof_w {v : Value} {xs : List UInt8} {w : World} (hv : Sl eb w v xs) : Calls Try.prog 45 #[v] w fun e w' => e = .returned (.int .u64 ((Sum.of xs).toNat : Int)) ∧ Below w.heap.size w w' := by
  obtain ⟨a, c, rfl, -⟩ := id hv
  have H1 : Hid (∀ W, Below w.heap.size w W → Calls Try.prog 52 #[.int .u64 125762890854254, .slice a xs.length c] W fun e w' => e = .returned (.int .u64 ((Sum.sum Sum.start xs).toNat : Int)) ∧ W = w') := fun W hW => by
    have := rfrom_w Sum.start (hv.below hW (Nat.le_refl _))
    rw [start_val] at this
    exact this
  have H2 : Hid (Calls Try.prog 53 #[.int .u64 ((Sum.word xs.length).toNat : Int)] w fun e w' => ∃ v', e = .returned v' ∧ Sl eb w' v' (Sum.eight xs.length) ∧ Below w.heap.size w w') := reight_w (Sum.word xs.length)
  have H3 : Hid (∀ W v, Sl eb W v (Sum.eight xs.length) → Calls Try.prog 52 #[.int .u64 ((Sum.sum Sum.start xs).toNat : Int), v] W fun e w' => e = .returned (.int .u64 ((Sum.of xs).toNat : Int)) ∧ W = w') := fun W v h => rfrom_w _ h
  have hwv := word_val xs.length
  clear hv
  generalize Sum.sum Sum.start xs = s at *
  generalize Sum.of xs = r at *
  generalize Sum.eight xs.length = ys at *
  generalize Sum.word xs.length = wd at *
  go_enter Try.func45, Try.ntmps45
  go_wp2_with (first
    | (go_at_call 52; (with_reducible refine (H1.out _ (Below.refl _ _)).mono ?_); rintro e w1 ⟨rfl, rfl⟩)
    | (go_at_call 53; (with_reducible refine H2.out.mono ?_); rintro e w2 ⟨v2, rfl, ho2, hb2⟩)
    | (go_at_call 52; (with_reducible refine (H3.out _ _ ho2).mono ?_); rintro e w3 ⟨rfl, rfl⟩))
  go_ret
  exact ⟨rfl, hb2⟩

set_option maxHeartbeats 800000 in
theorem number_w (n : UInt64) (k : Nat) (hk8 : k ≤ 8) (w : World) :
    Calls Try.prog 44 #[.int .u64 (n.toNat : Int), .int .i64 (k : Int)] w fun e w' => ∃ v', e = .returned v' ∧ w'.ownsRow w.heap.size 5 1 v' k ((Jr.num n k).map eb) ∧ Below w.heap.size w w' := by
  obtain ⟨i0, hi, hz0, hz1, hz2⟩ := info_parts Try.info5
  go_enter Try.func44, Try.ntmps44
  go_wp2
  go_loopw [5, 6] (fun s5 i wr => ∃ (j : Nat) (v : Value), v = s5 ∧ i = .int .i64 ((k : Int) - 1 - (j : Int)) ∧ j ≤ k ∧ wr.ownsRow w.heap.size 5 1 v j (((Jr.num n k).take j).map eb) ∧ Below w.heap.size w wr) (fun _ i _ => (intOf i + 1).toNat)
  case atStart => exact ⟨0, _, rfl, by go_num, Nat.zero_le _, World.ownsRow_nil _ _ _ _, Below.refl _ _⟩
  case round =>
    obtain ⟨j, v, rfl, rfl, hj, ho, hbl⟩ := hrel
    obtain ⟨a1, c1, rfl⟩ := own_slice ho
    by_cases hlt : j < k
    · obtain ⟨m, hm⟩ : ∃ m : Nat, (k : Int) - 1 - (j : Int) = (m : Int) := ⟨k - 1 - j, by omega⟩
      have hmk : k - 1 - j = m := by omega
      have hm8 : m < 8 := by omega
      have hbv := byte_of n m
      have HST := Lib.hid (Jr.num_step n k j hlt)
      rw [hmk] at HST
      have HM := Lib.hid hm
      have hbs := hbl.size
      have hl : ((Jr.num n k).take j).length = j := by rw [List.length_take, Jr.num_len]; omega
      have HLN := Lib.hid hl
      rw [hm]
      clear hm hmk hl
      generalize Sum.byte n m = c at *
      generalize (Jr.num n k).take j = X at *
      go_wp2_with (at_builtin; refine wpList_append_rd eb (fun _ => rfl) rfl _ _ 29 rfl w.heap.size 5 i0 (.int .u8 0) 1 Try.underlying29 hi hz0 hz1 hz2 rfl (.slice a1 j c1) j X rfl (ho.alloc _) (some ⟨wr.heap.size, 0, none⟩) 1 [c] 1 rfl rfl (by simp) (by omega) (Rd.one eb wr c _ _) (by unfold maxLen; omega) (by omega) (by simp; omega) ?_; intro v7 w7 ho7 hs7 hb7)
      go_roundw
      case rel => exact ⟨j + 1, _, rfl, by have := HM.out; go_num, by omega, by rw [HST.out]; exact ho7, hbl.trans ((Below.refl w.heap.size wr).alloc (by omega) _ |>.trans hb7)⟩
      case measure => simp [intOf]
    · obtain rfl : j = k := by omega
      have HT : Hid ((Jr.num n j).take j = Jr.num n j) := List.take_of_length_le (by rw [Jr.num_len]; exact Nat.le_refl _)
      rw [show (j : Int) - 1 - (j : Int) = -1 by omega]
      go_wp2
      go_ret
      exact ⟨_, rfl, by rw [HT.out] at ho; exact ho, hbl⟩
end Go.Proofs.Ytcbgablnbgpjdaa
