/-
  Plain lists of bytes: Alloc, Take, Set, Release, Clear and Count. No program is named here.
-/
import Derived.Test.YtnmplcnnpkbomaaSpec
namespace Ex

/-- The bitmap in which some bits are set or clear, one after the other. -/
def puts (xs : List UInt8) (l : List Nat) (on : Bool) : List UInt8 := l.foldl (fun ys j => putB ys j on) xs

theorem length_puts (on : Bool) : ∀ (l : List Nat) (xs : List UInt8), (puts xs l on).length = xs.length
  | [], _ => rfl
  | j :: l, xs => by
    show (puts (putB xs j on) l on).length = _
    rw [length_puts on l, length_putB]

theorem puts_snoc (xs : List UInt8) (l : List Nat) (j : Nat) (on : Bool) : puts xs (l ++ [j]) on = putB (puts xs l on) j on := by
  unfold puts; rw [List.foldl_append]; rfl

theorem getB_puts (on : Bool) : ∀ (l : List Nat) (xs : List UInt8), (∀ i ∈ l, i < 8 * xs.length) → ∀ j : Nat, getB (puts xs l on) j = if j ∈ l then on else getB xs j
  | [], _, _, _ => by simp [puts]
  | i :: l, xs, h, j => by
    show getB (puts (putB xs i on) l on) j = _
    rw [getB_puts on l _ (fun k hk => by rw [length_putB]; exact h k (List.mem_cons_of_mem _ hk)), getB_putB xs (h i List.mem_cons_self)]
    by_cases h1 : j ∈ l
    · simp [h1]
    · by_cases h2 : j = i
      · simp [h2]
      · simp [h1, h2]

/-- n bits from an index on are clear. -/
def clr (xs : List UInt8) (k n : Nat) : Bool := (List.range n).all fun j => !getB xs ((k + j : Nat) : Int)

theorem clr_iff {xs : List UInt8} {k n : Nat} : clr xs k n = true ↔ ∀ j, k ≤ j → j < k + n → getB xs (j : Nat) = false := by
  unfold clr
  rw [List.all_eq_true]
  constructor
  · intro h j h1 h2
    have := h (j - k) (by simp; omega)
    rw [show k + (j - k) = j by omega] at this
    simpa using this
  · intro h j hj
    simp at hj
    have := h (k + j) (by omega) (by omega)
    show (!getB xs ((k + j : Nat) : Int)) = true
    rw [this]; rfl

/-- The first run of n clear bits in a range. -/
def firstAt (xs : List UInt8) (x y n : Nat) : Option Nat := (List.range y).find? fun k => decide (x ≤ k) && (decide (k + n ≤ y) && clr xs k n)

theorem firstAt_some {xs : List UInt8} {x y n k : Nat} (hn : 1 ≤ n) (h1 : x ≤ k) (h2 : k + n ≤ y) (h3 : clr xs k n = true) (h4 : ∀ j, x ≤ j → j < k → clr xs j n = false ∨ y < j + n) : firstAt xs x y n = some k := by
  unfold firstAt
  rw [List.find?_range_eq_some]
  refine ⟨by simp [h1, h2, h3], by simp; omega, fun j hj => ?_⟩
  by_cases hx : x ≤ j
  · rcases h4 j hx hj with h | h
    · simp [h]
    · simp; exact .inr (.inl h)
  · simp; exact .inl (by omega)

theorem firstAt_none {xs : List UInt8} {x y n : Nat} (h : ∀ j, x ≤ j → j + n ≤ y → clr xs j n = false) : firstAt xs x y n = none := by
  unfold firstAt
  rw [List.find?_eq_none]
  intro j hj
  simp
  intro h1 h2
  simp [h j h1 h2]

/-- What Alloc returns: the index, the bitmap, the error's number. -/
def alloc (xs : List UInt8) (x y n : Int) : Int × List UInt8 × Int :=
  if okR xs.length x y && decide (1 ≤ n) then
    match firstAt xs x.toNat y.toNat n.toNat with
    | some k => ((k : Int), puts xs (List.range' k n.toNat) true, 0)
    | none => (0, [], 13)
  else (0, [], 1)

theorem alloc_bad {xs : List UInt8} {x y n : Int} (h : okR xs.length x y = false ∨ n < 1) : alloc xs x y n = (0, [], 1) := by
  unfold alloc
  rw [if_neg]
  rcases h with h | h
  · simp [h]
  · simp; intro _; omega

theorem alloc_ok {xs : List UInt8} {x y n : Nat} (h : okR xs.length x y = true) (hn : 1 ≤ n) :
    alloc xs x y n = match firstAt xs x y n with | some k => ((k : Int), puts xs (List.range' k n) true, 0) | none => (0, [], 13) := by
  unfold alloc
  have hn' : (1 : Int) ≤ (n : Int) := by omega
  rw [if_pos (by simp [h]; omega)]
  simp

/-- The scan of Alloc: before index i, l is the length of the run that ends there; no run of n bits ended before. -/
structure Scan (xs : List UInt8) (x n i l : Nat) : Prop where
  lt : l < n
  le : x + l ≤ i
  clear : ∀ j, i - l ≤ j → j < i → getB xs (j : Nat) = false
  before : i - l = x ∨ getB xs ((i - l - 1 : Nat) : Int) = true
  none : ∀ k, x ≤ k → k + n ≤ i → clr xs k n = false

theorem Scan.start (xs : List UInt8) (x n : Nat) (hn : 1 ≤ n) : Scan xs x n x 0 :=
  ⟨hn, by omega, fun j h1 h2 => by omega, .inl (by omega), fun k h1 h2 => by omega⟩

theorem clr_false {xs : List UInt8} {k n j : Nat} (h1 : k ≤ j) (h2 : j < k + n) (h : getB xs (j : Nat) = true) : clr xs k n = false := by
  rw [Bool.eq_false_iff]
  intro hc
  have := clr_iff.1 hc j h1 h2
  rw [h] at this; cases this

theorem Scan.set {xs : List UInt8} {x n i l : Nat} (h : Scan xs x n i l) (hb : getB xs (i : Nat) = true) : Scan xs x n (i + 1) 0 :=
  ⟨by have := h.lt; omega, by have := h.le; omega, fun j h1 h2 => by omega, .inr (by simpa using hb), fun k h1 h2 => by
    by_cases hk : k + n ≤ i
    · exact h.none k h1 hk
    · exact clr_false (j := i) (by have := h.lt; omega) (by omega) hb⟩

theorem Scan.more {xs : List UInt8} {x n i l : Nat} (h : Scan xs x n i l) (hb : getB xs (i : Nat) = false) (hl : l + 1 ≠ n) : Scan xs x n (i + 1) (l + 1) := by
  have h1 := h.lt
  have h2 := h.le
  refine ⟨by omega, by omega, fun j h3 h4 => ?_, ?_, fun k h3 h4 => ?_⟩
  · by_cases hj : j = i
    · subst hj; exact hb
    · exact h.clear j (by omega) (by omega)
  · rcases h.before with h | h
    · exact .inl (by omega)
    · right
      rw [show i + 1 - (l + 1) - 1 = i - l - 1 by omega]
      exact h
  · by_cases hk : k + n ≤ i
    · exact h.none k h3 hk
    · rcases h.before with h5 | h5
      · omega
      · exact clr_false (j := i - l - 1) (by omega) (by omega) h5

theorem Scan.found {xs : List UInt8} {x y n i l : Nat} (h : Scan xs x n i l) (hb : getB xs (i : Nat) = false) (hl : l + 1 = n) (hi : i < y) : firstAt xs x y n = some (i + 1 - n) ∧ x ≤ i + 1 - n ∧ n ≤ i + 1 := by
  have h1 := h.lt
  have h2 := h.le
  refine ⟨firstAt_some (by omega) (by omega) (by omega) (clr_iff.2 fun j h3 h4 => ?_) (fun j h3 h4 => .inl (h.none j h3 (by omega))), by omega, by omega⟩
  by_cases hj : j = i
  · subst hj; exact hb
  · exact h.clear j (by omega) (by omega)

theorem Scan.done {xs : List UInt8} {x y n l : Nat} (h : Scan xs x n y l) : firstAt xs x y n = Option.none :=
  firstAt_none h.none

/-- The clear bits from x on, below i. -/
def cl (xs : List UInt8) (x i : Nat) : List Nat := (List.range' x (i - x)).filter fun j => !getB xs (j : Nat)

theorem cl_start (xs : List UInt8) (x : Nat) : cl xs x x = [] := by simp [cl]

theorem cl_step (xs : List UInt8) {x i : Nat} (h : x ≤ i) : cl xs x (i + 1) = if getB xs (i : Nat) then cl xs x i else cl xs x i ++ [i] := by
  unfold cl
  rw [show i + 1 - x = (i - x) + 1 by omega, List.range'_concat, List.filter_append]
  rw [show x + 1 * (i - x) = i by omega]
  cases hb : getB xs (i : Nat) <;> simp [hb]

theorem cl_set (xs : List UInt8) {x i : Nat} (h : x ≤ i) (hb : getB xs (i : Nat) = true) : cl xs x (i + 1) = cl xs x i := by rw [cl_step xs h, hb]; rfl
theorem cl_clear (xs : List UInt8) {x i : Nat} (h : x ≤ i) (hb : getB xs (i : Nat) = false) : cl xs x (i + 1) = cl xs x i ++ [i] := by rw [cl_step xs h, hb]; rfl

theorem cl_mem {xs : List UInt8} {x i j : Nat} : j ∈ cl xs x i ↔ (x ≤ j ∧ j < i ∧ getB xs (j : Nat) = false) := by
  unfold cl
  rw [List.mem_filter, List.mem_range'_1]
  simp only [Bool.not_eq_true']
  constructor
  · rintro ⟨⟨a, b⟩, c⟩
    exact ⟨a, by omega, c⟩
  · rintro ⟨a, b, c⟩
    exact ⟨⟨a, by omega⟩, c⟩

theorem cl_append (xs : List UInt8) {x i y : Nat} (h1 : x ≤ i) (h2 : i ≤ y) : cl xs x y = cl xs x i ++ cl xs i y := by
  unfold cl
  rw [← List.filter_append]
  congr 1
  rw [show y - x = (i - x) + (y - i) by omega, List.range'_append_1.symm]
  rw [show x + (i - x) = i by omega]

theorem cl_length (xs : List UInt8) (x i : Nat) : (cl xs x i).length ≤ i - x := by
  unfold cl
  have := List.length_filter_le (fun j : Nat => !getB xs (j : Nat)) (List.range' x (i - x))
  simpa using this

/-- What Take returns. -/
def take (xs : List UInt8) (x y n : Int) : List Nat × List UInt8 × Int :=
  if okR xs.length x y && decide (1 ≤ n) then
    if n.toNat ≤ (cl xs x.toNat y.toNat).length then ((cl xs x.toNat y.toNat).take n.toNat, puts xs ((cl xs x.toNat y.toNat).take n.toNat) true, 0)
    else ([], [], 13)
  else ([], [], 1)

theorem take_bad {xs : List UInt8} {x y n : Int} (h : okR xs.length x y = false ∨ n < 1) : take xs x y n = ([], [], 1) := by
  unfold take
  rw [if_neg]
  rcases h with h | h
  · simp [h]
  · simp; intro _; omega

theorem take_few {xs : List UInt8} {x y n : Nat} (h : okR xs.length x y = true) (hn : 1 ≤ n) (hl : (cl xs x y).length < n) : take xs x y n = ([], [], 13) := by
  unfold take
  rw [if_pos (by simp [h]; omega), if_neg (by simp; omega)]

theorem take_some {xs : List UInt8} {x y n i : Nat} (h : okR xs.length x y = true) (hn : 1 ≤ n) (h1 : x ≤ i) (h2 : i ≤ y) (hl : (cl xs x i).length = n) : take xs x y n = (cl xs x i, puts xs (cl xs x i) true, 0) := by
  unfold take
  have ht : (cl xs x y).take n = cl xs x i := by rw [cl_append xs h1 h2, List.take_append_of_le_length (by omega), List.take_of_length_le (by omega)]
  have hge : n ≤ (cl xs x y).length := by rw [cl_append xs h1 h2, List.length_append]; omega
  rw [if_pos (by simp [h]; omega), if_pos (by simpa using hge)]
  simp [ht]

theorem okR_nat {n : Nat} {x y : Int} (h : okR n x y = true) : ∃ i j : Nat, x = i ∧ y = j ∧ i ≤ j ∧ j ≤ 8 * n := by
  simp [okR] at h
  exact ⟨x.toNat, y.toNat, by omega, by omega, by omega, by omega⟩

/-- What Set returns. -/
def setR (xs : List UInt8) (i : Int) (on : Bool) : List UInt8 × Int := if 0 ≤ i ∧ i < 8 * (xs.length : Int) then (putB xs i.toNat on, 0) else ([], 2)

/-- What Release comes to behind the check of the indices. -/
def relGo : List UInt8 → List Int → List UInt8 × Int
  | xs, [] => (xs, 0)
  | xs, i :: l => if getB xs i then relGo (putB xs i.toNat false) l else ([], 7)

def inR (xs : List UInt8) (i : Int) : Bool := decide (0 ≤ i) && decide (i < 8 * (xs.length : Int))

def release (xs : List UInt8) (l : List Int) : List UInt8 × Int := if l.all (inR xs) then relGo xs l else ([], 2)

/-- How many of the first k bits are set. -/
def countTo (xs : List UInt8) (k : Nat) : Nat := ((List.range k).filter fun j => getB xs (j : Nat)).length

theorem countTo_step (xs : List UInt8) (k : Nat) : countTo xs (k + 1) = countTo xs k + if getB xs (k : Nat) then 1 else 0 := by
  unfold countTo
  rw [List.range_succ, List.filter_append, List.length_append]
  cases h : getB xs (k : Nat) <;> simp [h]

/-- What Clear returns. -/
def clearR (xs : List UInt8) (x y : Int) : Int × Int := if okR xs.length x y then ((cl xs x.toNat y.toNat).length, 0) else (0, 1)
end Ex
