/-
  Plain lists of bytes: bits of a bitmap, and what the functions of extent and of its reference compute. No program is named here.
-/
namespace Ex

/-- Bit k of a byte. -/
def bitB (x : UInt8) (k : Nat) : Bool := x.toNat.testBit k

/-- Bit i of a bitmap; false outside. -/
def getB (xs : List UInt8) (i : Int) : Bool := decide (0 ≤ i) && (decide ((i / 8).toNat < xs.length) && bitB (xs.getD (i / 8).toNat 0) (i % 8).toNat)

/-- A byte in which bit k is set or clear. -/
def setB (x : UInt8) (k : Nat) (on : Bool) : UInt8 := if on then UInt8.ofNat (x.toNat ||| 2 ^ k) else UInt8.ofNat (x.toNat ^^^ (x.toNat &&& 2 ^ k))

/-- The bitmap in which bit i is set or clear. -/
def putB (xs : List UInt8) (i : Nat) (on : Bool) : List UInt8 := xs.set (i / 8) (setB (xs.getD (i / 8) 0) (i % 8) on)

theorem length_putB (xs : List UInt8) (i : Nat) (on : Bool) : (putB xs i on).length = xs.length := by simp [putB]

theorem setB_nat (x : UInt8) {k : Nat} (hk : k < 8) (on : Bool) : (setB x k on).toNat = if on then x.toNat ||| 2 ^ k else x.toNat ^^^ (x.toNat &&& 2 ^ k) := by
  have hx : x.toNat < 2 ^ 8 := x.toNat_lt
  have hp : 2 ^ k < 2 ^ 8 := Nat.pow_lt_pow_right (by omega) hk
  unfold setB
  cases on
  · simp only [Bool.false_eq_true, if_false]
    rw [UInt8.toNat_ofNat']
    exact Nat.mod_eq_of_lt (Nat.xor_lt_two_pow hx (Nat.and_lt_two_pow _ hp))
  · simp only [if_true]
    rw [UInt8.toNat_ofNat']
    exact Nat.mod_eq_of_lt (Nat.or_lt_two_pow hx hp)

theorem bitB_setB (x : UInt8) {k : Nat} (hk : k < 8) (on : Bool) (j : Nat) : bitB (setB x k on) j = if j = k then on else bitB x j := by
  unfold bitB
  rw [setB_nat x hk on]
  cases on
  · simp only [Bool.false_eq_true, if_false, Nat.testBit_xor, Nat.testBit_and, Nat.testBit_two_pow]
    by_cases h : j = k
    · subst h; simp
    · have : ¬ k = j := fun e => h e.symm
      simp [h, this]
  · simp only [if_true, Nat.testBit_or, Nat.testBit_two_pow]
    by_cases h : j = k
    · subst h; simp
    · have : ¬ k = j := fun e => h e.symm
      simp [h, this]

theorem getB_nat (xs : List UInt8) (i : Nat) : getB xs i = (decide (i / 8 < xs.length) && bitB (xs.getD (i / 8) 0) (i % 8)) := by
  unfold getB
  have h1 : ((i : Int) / 8).toNat = i / 8 := by omega
  have h2 : ((i : Int) % 8).toNat = i % 8 := by omega
  rw [h1, h2]
  simp

theorem getB_neg (xs : List UInt8) {i : Int} (h : i < 0) : getB xs i = false := by
  unfold getB
  rw [decide_eq_false (by omega)]
  rfl

theorem getB_out (xs : List UInt8) {i : Nat} (h : 8 * xs.length ≤ i) : getB xs i = false := by
  rw [getB_nat, decide_eq_false (by omega)]
  rfl

theorem getB_putB (xs : List UInt8) {i : Nat} (hi : i < 8 * xs.length) (on : Bool) (j : Nat) : getB (putB xs i on) j = if j = i then on else getB xs j := by
  rw [getB_nat, getB_nat, length_putB]
  have h8 : i % 8 < 8 := Nat.mod_lt _ (by omega)
  by_cases hd : j / 8 = i / 8
  · have hl : i / 8 < xs.length := by omega
    have hg : (putB xs i on).getD (j / 8) 0 = setB (xs.getD (i / 8) 0) (i % 8) on := by
      rw [hd]; unfold putB; simp [List.getD, hl]
    rw [hg, bitB_setB _ h8, hd, decide_eq_true hl]
    by_cases hm : j % 8 = i % 8
    · have : j = i := by omega
      simp [this]
    · have : ¬ j = i := by omega
      simp [hm, this]
  · have hg : (putB xs i on).getD (j / 8) 0 = xs.getD (j / 8) 0 := by
      unfold putB
      simp only [List.getD, List.getElem?_set]
      rw [if_neg (fun e => hd e.symm)]
    have : ¬ j = i := by intro e; subst e; exact hd rfl
    rw [hg, if_neg this]

/-- Two bitmaps of one length with the same bits are one. -/
theorem ext {xs ys : List UInt8} (hl : xs.length = ys.length) (h : ∀ j, j < 8 * xs.length → getB xs (j : Nat) = getB ys (j : Nat)) : xs = ys := by
  apply List.ext_getElem hl
  intro k h1 h2
  apply UInt8.toNat_inj.1
  apply Nat.eq_of_testBit_eq
  intro b
  by_cases hb : b < 8
  · have := h (8 * k + b) (by omega)
    rw [getB_nat, getB_nat] at this
    have e1 : (8 * k + b) / 8 = k := by omega
    have e2 : (8 * k + b) % 8 = b := by omega
    rw [e1, e2, decide_eq_true h1, decide_eq_true h2] at this
    simpa [List.getD, h1, h2, bitB] using this
  · have hp : 2 ^ 8 ≤ 2 ^ b := Nat.pow_le_pow_right (by omega) (by omega)
    have l1 : xs[k].toNat < 2 ^ 8 := (xs[k]).toNat_lt
    have l2 : ys[k].toNat < 2 ^ 8 := (ys[k]).toNat_lt
    rw [Nat.testBit_lt_two_pow (by omega), Nat.testBit_lt_two_pow (by omega)]
end Ex
namespace Ex
/-- A range of a bitmap of n bytes. -/
def okR (n : Nat) (x y : Int) : Bool := decide (0 ≤ x) && (decide (x ≤ y) && decide (y ≤ 8 * (n : Int)))
end Ex
namespace Ex
theorem setB_setB (x : UInt8) {k : Nat} (hk : k < 8) : setB (setB x k false) k true = setB x k true := by
  apply UInt8.toNat_inj.1
  apply Nat.eq_of_testBit_eq
  intro j
  have h1 := bitB_setB (setB x k false) hk true j
  have h2 := bitB_setB x hk false j
  have h3 := bitB_setB x hk true j
  unfold bitB at h1 h2 h3
  rw [h1, h3, h2]
  split <;> rfl
end Ex
