/-
  Plain: one byte changed in a number or in the data makes another sum. No program is named here.
-/
import Derived.Test.YtcbgablnbgpjdaaSumSpec
namespace Sum

theorem set_ne {h : UInt64} {l : List UInt8} {p : Nat} {c : UInt8} (hp : p < l.length) (hc : l[p] ≠ c) : sum h (l.set p c) ≠ sum h l := by
  have e1 : l = l.take p ++ l[p] :: l.drop (p + 1) := by
    rw [List.getElem_cons_drop, List.take_append_drop]
  have e2 : l.set p c = l.take p ++ c :: l.drop (p + 1) := by rw [List.set_eq_take_append_cons_drop, if_pos hp]
  rw [e2]
  conv => rhs; rw [e1]
  exact sum_ne (Ne.symm hc)

theorem int_inj {a b : UInt64} (h : int a = int b) : a = b := by
  have ha := a.toNat_lt
  have hb := b.toNat_lt
  unfold int at h
  apply UInt64.toNat_inj.1
  split at h <;> split at h <;> omega

/-- The word of a number that is exclusive-or of two. -/
theorem byte_xor (x y : UInt64) (i : Nat) : byte (x ^^^ y) i = byte x i ^^^ byte y i := by
  unfold byte
  apply UInt8.toNat_inj.1
  rw [UInt8.toNat_xor, UInt8.toNat_ofNat', UInt8.toNat_ofNat', UInt8.toNat_ofNat', UInt64.toNat_xor]
  have h : ∀ n : Nat, n / 256 ^ i = n >>> (8 * i) := fun n => by
    rw [Nat.shiftRight_eq_div_pow, Nat.pow_mul]
  rw [h, h, h, Nat.shiftRight_xor_distrib, Nat.xor_mod_two_pow]

theorem byte_shl (b : UInt8) (j i : Nat) (hj : j < 8) : byte (UInt64.ofNat (b.toNat * 256 ^ j)) i = if i = j then b else 0 := by
  have hb := b.toNat_lt
  unfold byte
  have hlt : b.toNat * 256 ^ j < 18446744073709551616 := by
    calc b.toNat * 256 ^ j ≤ 255 * 256 ^ j := Nat.mul_le_mul_right _ (by omega)
      _ ≤ 255 * 256 ^ 7 := Nat.mul_le_mul_left _ (Nat.pow_le_pow_right (by omega) (by omega))
      _ < _ := by decide
  rw [UInt64.toNat_ofNat', Nat.mod_eq_of_lt hlt]
  split
  · rename_i e
    subst e
    rw [Nat.mul_div_cancel _ (Nat.pow_pos (by omega))]
    simp
  · rename_i e
    apply UInt8.toNat_inj.1
    rw [UInt8.toNat_ofNat']
    by_cases h : i < j
    · obtain ⟨k, rfl⟩ : ∃ k, j = i + (k + 1) := ⟨j - i - 1, by omega⟩
      rw [Nat.pow_add, Nat.mul_comm (256 ^ i), ← Nat.mul_assoc, Nat.mul_div_cancel _ (Nat.pow_pos (by omega)), Nat.pow_succ, ← Nat.mul_assoc, Nat.mul_mod_left]
      rfl
    · rw [Nat.div_eq_of_lt]
      · rfl
      · have h1 : 256 ^ (j + 1) ≤ 256 ^ i := Nat.pow_le_pow_right (by omega) (by omega)
        calc b.toNat * 256 ^ j < 256 * 256 ^ j := Nat.mul_lt_mul_of_pos_right (by omega) (Nat.pow_pos (by omega))
          _ = 256 ^ (j + 1) := by rw [Nat.pow_succ, Nat.mul_comm]
          _ ≤ _ := h1

theorem eightN_xor (x : UInt64) (b : UInt8) (j : Nat) (hj : j < 8) : eightN (x ^^^ UInt64.ofNat (b.toNat * 256 ^ j)) = (eightN x).set j (byte x j ^^^ b) := by
  unfold eightN
  apply List.ext_getElem (by simp)
  intro i h1 h2
  rw [List.getElem_set]
  simp only [List.getElem_map, List.getElem_range]
  rw [byte_xor, byte_shl b j i hj]
  by_cases e : i = j
  · subst e; simp
  · rw [if_neg e, if_neg (fun h => e h.symm)]; simp

theorem len_eight (n : Int) : (eight n).length = 8 := by unfold eight eightN; simp

/-- A number in which one byte is changed. -/
theorem eight_change {n m : Int} {b : UInt8} {j : Nat} (hj : j < 8) (hb : b ≠ 0) (h : word m = word n ^^^ UInt64.ofNat (b.toNat * 256 ^ j)) :
    ∃ c, ∃ h8 : j < (eight n).length, eight m = (eight n).set j c ∧ (eight n)[j] ≠ c := by
  refine ⟨byte (word n) j ^^^ b, by rw [len_eight]; exact hj, ?_, ?_⟩
  · unfold eight
    rw [h, eightN_xor _ _ _ hj]
  · have e1 : ∀ h8, (eight n)[j]'h8 = byte (word n) j := fun h8 => by
      have h : (eight n)[j]? = some (byte (word n) j) := by
        show ((List.range 8).map (byte (word n)))[j]? = _
        rw [List.getElem?_map, List.getElem?_range hj]; rfl
      rw [List.getElem?_eq_getElem h8] at h
      exact Option.some.inj h
    rw [e1]
    intro e
    apply hb
    have h2 : byte (word n) j ^^^ byte (word n) j = byte (word n) j ^^^ (byte (word n) j ^^^ b) := congrArg (byte (word n) j ^^^ ·) e
    rw [← UInt8.xor_assoc, UInt8.xor_self, UInt8.zero_xor] at h2
    exact h2.symm

theorem answer_ne0 {d d' t a : Int} {b : List UInt8} {x : UInt8} {j : Nat} (hj : j < 8) (hx : x ≠ 0) (h : word d' = word d ^^^ UInt64.ofNat (x.toNat * 256 ^ j)) : answer d t a b ≠ answer d' t a b := by
  obtain ⟨c, h8, e, hne⟩ := eight_change hj hx h
  unfold answer
  rw [e]
  intro h'
  have := sum_inj (int_inj h')
  simp only [List.append_assoc] at this
  rw [sum_append start (eight d), sum_append start ((eight d).set j c)] at this
  exact set_ne h8 hne (sum_inj this).symm
theorem answer_ne1 {d t t' a : Int} {b : List UInt8} {x : UInt8} {j : Nat} (hj : j < 8) (hx : x ≠ 0) (h : word t' = word t ^^^ UInt64.ofNat (x.toNat * 256 ^ j)) : answer d t a b ≠ answer d t' a b := by
  obtain ⟨c, h8, e, hne⟩ := eight_change hj hx h
  unfold answer
  rw [e]
  intro h'
  have := sum_inj (int_inj h')
  simp only [List.append_assoc] at this
  rw [sum_append start (eight d), sum_append _ (eight t), sum_append start (eight d), sum_append _ ((eight t).set j c)] at this
  exact set_ne h8 hne (sum_inj this).symm
theorem answer_ne2 {d t a a' : Int} {b : List UInt8} {x : UInt8} {j : Nat} (hj : j < 8) (hx : x ≠ 0) (h : word a' = word a ^^^ UInt64.ofNat (x.toNat * 256 ^ j)) : answer d t a b ≠ answer d t a' b := by
  obtain ⟨c, h8, e, hne⟩ := eight_change hj hx h
  unfold answer
  rw [e]
  intro h'
  have := sum_inj (int_inj h')
  simp only [List.append_assoc] at this
  rw [sum_append start (eight d), sum_append _ (eight t), sum_append _ (eight a), sum_append start (eight d), sum_append _ (eight t), sum_append _ ((eight a).set j c)] at this
  exact set_ne h8 hne (sum_inj this).symm
theorem answer_ned {d t a : Int} {b : List UInt8} {p : Nat} {c : UInt8} (hp : p < b.length) (hc : b[p] ≠ c) : answer d t a b ≠ answer d t a (b.set p c) := by
  unfold answer
  rw [List.length_set]
  intro h'
  exact set_ne hp hc (int_inj h').symm
end Sum
