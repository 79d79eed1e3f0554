/-
  Plain: the first place at which a test answers yes. No program is named here.
-/
namespace Ix

/-- The first k < n with p k, as Go's index; -1 if there is none. -/
def idx (p : Nat → Bool) (n : Nat) : Int := match (List.range n).find? p with | some k => (k : Int) | none => -1

/-- Some k < n has p k. -/
def any (p : Nat → Bool) (n : Nat) : Bool := (List.range n).any p

theorem find_some {p : Nat → Bool} {n k : Nat} (hk : k < n) (hp : p k = true) (hno : ∀ j, j < k → p j = false) : (List.range n).find? p = some k := by
  rw [List.find?_range_eq_some]
  exact ⟨hp, by simpa using hk, fun j hj => by simp [hno j hj]⟩

theorem find_none {p : Nat → Bool} {n : Nat} (hno : ∀ j, j < n → p j = false) : (List.range n).find? p = none := by
  rw [List.find?_eq_none]
  intro j hj
  simp [hno j (by simpa using hj)]

theorem idx_some {p : Nat → Bool} {n k : Nat} (hk : k < n) (hp : p k = true) (hno : ∀ j, j < k → p j = false) : idx p n = k := by
  unfold idx; rw [find_some hk hp hno]

theorem idx_none {p : Nat → Bool} {n : Nat} (hno : ∀ j, j < n → p j = false) : idx p n = -1 := by
  unfold idx; rw [find_none hno]

theorem any_some {p : Nat → Bool} {n k : Nat} (hk : k < n) (hp : p k = true) : any p n = true := by
  unfold any; rw [List.any_eq_true]; exact ⟨k, by simpa using hk, hp⟩

theorem any_none {p : Nat → Bool} {n : Nat} (hno : ∀ j, j < n → p j = false) : any p n = false := by
  unfold any; rw [List.any_eq_false]; intro j hj; simp [hno j (by simpa using hj)]

theorem idx_cases (p : Nat → Bool) (n : Nat) : (idx p n = -1 ∧ any p n = false ∧ ∀ j, j < n → p j = false) ∨ ∃ k, k < n ∧ idx p n = k ∧ any p n = true ∧ p k = true ∧ ∀ j, j < k → p j = false := by
  cases h : (List.range n).find? p with
  | none =>
    have hno : ∀ j, j < n → p j = false := fun j hj => by
      have := List.find?_eq_none.1 h j (by simpa using hj)
      simpa using this
    exact .inl ⟨idx_none hno, any_none hno, hno⟩
  | some k =>
    rw [List.find?_range_eq_some] at h
    obtain ⟨h1, h2, h3⟩ := h
    have hk : k < n := by simpa using h2
    have hno : ∀ j, j < k → p j = false := fun j hj => by simpa using h3 j hj
    exact .inr ⟨k, hk, idx_some hk h1 hno, any_some hk h1, h1, hno⟩

theorem any_iff (p : Nat → Bool) (n : Nat) : any p n = decide (0 ≤ idx p n) := by
  rcases idx_cases p n with ⟨h1, h2, _⟩ | ⟨k, _, h1, h2, _⟩ <;> rw [h1, h2]
  · rfl
  · symm; rw [decide_eq_true_iff]; omega
end Ix
