/-
  Plain: the checksum of layer 2. No program is named here.
-/
namespace Sum
def fac : UInt64 := 0xD1B54A32D192ED03
def inv : UInt64 := 0x06106CCFA448E5AB
def start : UInt64 := 0x7261746F6F6E

def step (h : UInt64) (c : UInt8) : UInt64 := ((h ^^^ c.toUInt64) * fac) ^^^ (((h ^^^ c.toUInt64) * fac) >>> 29)
def sum (h : UInt64) (l : List UInt8) : UInt64 := l.foldl step h

/-- The byte number i of a word. -/
def byte (n : UInt64) (i : Nat) : UInt8 := UInt8.ofNat (n.toNat / 256 ^ i)
def eightN (n : UInt64) : List UInt8 := (List.range 8).map (byte n)
/-- An integer of 64 bits as a word, and back. -/
def word (n : Int) : UInt64 := UInt64.ofNat (n % 18446744073709551616).toNat
def int (h : UInt64) : Int := if h.toNat < 9223372036854775808 then (h.toNat : Int) else (h.toNat : Int) - 18446744073709551616
def eight (n : Int) : List UInt8 := eightN (word n)
def of (b : List UInt8) : UInt64 := sum (sum start b) (eight b.length)
def answer (d t a : Int) (b : List UInt8) : Int := int (sum (sum start (eight d ++ eight t ++ eight a ++ eight (b.length : Int))) b)

theorem fac_inv (x : UInt64) : x * fac * inv = x := by
  rw [UInt64.mul_assoc, show fac * inv = 1 by decide, UInt64.mul_one]

theorem fac_inj {x y : UInt64} (h : x * fac = y * fac) : x = y := by
  rw [← fac_inv x, h, fac_inv]

theorem bv_sh {k m : BitVec 64} (h : k ^^^ (k >>> 29) = m ^^^ (m >>> 29)) : k = m := by
  have key : ∀ x : BitVec 64, (x ^^^ (x >>> 29)) ^^^ ((x ^^^ (x >>> 29)) >>> 29) ^^^ ((x ^^^ (x >>> 29)) >>> 58) = x := by
    intro x
    rw [BitVec.ushiftRight_xor_distrib, BitVec.ushiftRight_xor_distrib, ← BitVec.shiftRight_add, ← BitVec.shiftRight_add]
    rw [show x >>> (29 + 58) = 0#64 from BitVec.ushiftRight_eq_zero (by omega)]
    simp only [BitVec.xor_zero]
    rw [show 29 + 29 = 58 from rfl]
    rw [show x ^^^ x >>> 29 ^^^ (x >>> 29 ^^^ x >>> 58) ^^^ x >>> 58 = x ^^^ ((x >>> 29 ^^^ x >>> 29) ^^^ (x >>> 58 ^^^ x >>> 58)) by ac_rfl]
    simp
  rw [← key k, h, key]

theorem sh_inj {k m : UInt64} (h : k ^^^ (k >>> 29) = m ^^^ (m >>> 29)) : k = m := by
  apply UInt64.toBitVec_inj.1
  apply bv_sh
  have := congrArg UInt64.toBitVec h
  simpa using this

theorem step_inj {h h' : UInt64} {c c' : UInt8} (e : step h c = step h' c') : h ^^^ c.toUInt64 = h' ^^^ c'.toUInt64 := fac_inj (sh_inj e)

theorem xor_right {a b c : UInt64} (h : a ^^^ c = b ^^^ c) : a = b := by
  have := congrArg (· ^^^ c) h
  simpa [UInt64.xor_assoc] using this
theorem xor_left {a b c : UInt64} (h : c ^^^ a = c ^^^ b) : a = b := by
  rw [UInt64.xor_comm c a, UInt64.xor_comm c b] at h; exact xor_right h

theorem sum_inj {l : List UInt8} : ∀ {h h' : UInt64}, sum h l = sum h' l → h = h' := by
  induction l with
  | nil => intro h h' e; exact e
  | cons c l ih => intro h h' e; exact xor_right (step_inj (ih (h := step h c) (h' := step h' c) e))

theorem sum_append (h : UInt64) (a b : List UInt8) : sum h (a ++ b) = sum (sum h a) b := by unfold sum; rw [List.foldl_append]
theorem sum_cons (h : UInt64) (c : UInt8) (l : List UInt8) : sum h (c :: l) = sum (step h c) l := rfl

/-- One byte changed: another sum. -/
theorem sum_ne {h : UInt64} {a b : List UInt8} {c d : UInt8} (hcd : c ≠ d) : sum h (a ++ c :: b) ≠ sum h (a ++ d :: b) := by
  intro e
  rw [sum_append, sum_append, sum_cons, sum_cons] at e
  have := xor_left (step_inj (sum_inj e))
  apply hcd
  have h2 := congrArg UInt64.toUInt8 this
  simpa using h2
end Sum
