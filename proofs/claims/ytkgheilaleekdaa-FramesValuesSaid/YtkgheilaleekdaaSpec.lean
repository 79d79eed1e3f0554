/-
  Plain: what the functions of frames and of its reference compute, on lists of pages. No program is named here.
-/
namespace Fr

def okP (ps : List (List UInt8)) : Bool := ps.all fun p => p.length == 128
def valid (ps : List (List UInt8)) : Bool := (ps.length == 96) && okP ps
def okR (f x n : Int) : Bool := decide (0 ≤ f) && (decide (f < 96) && (decide (0 ≤ x) && (decide (x ≤ 128) && (decide (0 ≤ n) && decide (n ≤ 128 - x)))))
/-- The error of a range: 0, 1 (the memory is not valid) or 2. -/
def chk (ps : List (List UInt8)) (f x n : Int) : Int := if valid ps = true then (if okR f x n = true then 0 else 2) else 1
def few (ps : List (List UInt8)) : Bool := decide (ps.length ≤ 192) && ps.all fun p => decide (p.length ≤ 256)
def zeros : List UInt8 := List.replicate 128 0
def new : List (List UInt8) := List.replicate 96 zeros
/-- A page in which the bytes from x on are b. -/
def put (p : List UInt8) (x : Nat) (b : List UInt8) : List UInt8 := p.take x ++ (b ++ p.drop (x + b.length))
def page (ps : List (List UInt8)) (f : Int) : List UInt8 := ps.getD f.toNat []
def read (ps : List (List UInt8)) (f x n : Int) : List UInt8 × Int := if chk ps f x n = 0 then (((page ps f).drop x.toNat).take n.toNat, 0) else ([], chk ps f x n)
def write (ps : List (List UInt8)) (f x : Int) (b : List UInt8) : List (List UInt8) × Int :=
  if chk ps f x b.length = 0 then (ps.set f.toNat (put (page ps f) x.toNat b), 0) else ([], chk ps f x b.length)
def setF (ps : List (List UInt8)) (f : Int) (b : List UInt8) : List (List UInt8) × Int :=
  if chk ps f 0 b.length = 0 then (ps.set f.toNat (b ++ List.replicate (128 - b.length) 0), 0) else ([], chk ps f 0 b.length)
def copy (ps : List (List UInt8)) (to fr : Int) : List (List UInt8) × Int :=
  if valid ps = true then (if 0 ≤ to ∧ to < 96 ∧ 0 ≤ fr ∧ fr < 96 then (ps.set to.toNat (page ps fr), 0) else ([], 2)) else ([], 1)
/-- The pages below k that have a byte other than 0. -/
def usedTo (ps : List (List UInt8)) (k : Nat) : List Nat := (List.range k).filter fun i => (ps.getD i []).any (· != 0)
def used (ps : List (List UInt8)) : List Nat := if valid ps = true then usedTo ps 96 else []

theorem zeros_len : zeros.length = 128 := List.length_replicate
theorem new_len : new.length = 96 := List.length_replicate
theorem new_get (i : Nat) (h : i < new.length) : new[i] = zeros := List.getElem_replicate _
theorem zeros_get (i : Nat) (h : i < zeros.length) : zeros[i] = 0 := List.getElem_replicate _

theorem valid_iff {ps : List (List UInt8)} : valid ps = true ↔ ps.length = 96 ∧ ∀ i (h : i < ps.length), ps[i].length = 128 := by
  unfold valid okP
  rw [Bool.and_eq_true, beq_iff_eq, List.all_eq_true]
  constructor
  · rintro ⟨h1, h2⟩
    exact ⟨h1, fun i h => by simpa using h2 _ (List.getElem_mem h)⟩
  · rintro ⟨h1, h2⟩
    refine ⟨h1, fun p hp => ?_⟩
    obtain ⟨i, hi, rfl⟩ := List.getElem_of_mem hp
    simpa using h2 i hi

theorem valid_len {ps : List (List UInt8)} (h : ps.length ≠ 96) : valid ps = false := by
  unfold valid; rw [beq_eq_false_iff_ne.2 h]; rfl

theorem valid_page {ps : List (List UInt8)} {i : Nat} (hi : i < ps.length) (h : ps[i].length ≠ 128) : valid ps = false := by
  rw [Bool.eq_false_iff]; intro hv; exact h ((valid_iff.1 hv).2 i hi)

theorem few_iff {ps : List (List UInt8)} : few ps = true ↔ ps.length ≤ 192 ∧ ∀ i (h : i < ps.length), ps[i].length ≤ 256 := by
  unfold few
  rw [Bool.and_eq_true, decide_eq_true_iff, List.all_eq_true]
  constructor
  · rintro ⟨h1, h2⟩
    exact ⟨h1, fun i h => by simpa using h2 _ (List.getElem_mem h)⟩
  · rintro ⟨h1, h2⟩
    refine ⟨h1, fun p hp => ?_⟩
    obtain ⟨i, hi, rfl⟩ := List.getElem_of_mem hp
    simpa using h2 i hi

theorem few_page {ps : List (List UInt8)} {i : Nat} (hi : i < ps.length) (h : 256 < ps[i].length) : few ps = false := by
  rw [Bool.eq_false_iff]; intro hv; have := (few_iff.1 hv).2 i hi; omega

theorem okR_iff {f x n : Int} : okR f x n = true ↔ 0 ≤ f ∧ f < 96 ∧ 0 ≤ x ∧ x ≤ 128 ∧ 0 ≤ n ∧ n ≤ 128 - x := by
  unfold okR; simp

theorem okR_not {f x n : Int} (h : ¬ (0 ≤ f ∧ f < 96 ∧ 0 ≤ x ∧ x ≤ 128 ∧ 0 ≤ n ∧ n ≤ 128 - x)) : okR f x n = false := by
  rw [Bool.eq_false_iff]; intro hh; exact h (okR_iff.1 hh)

theorem chk_zero {ps : List (List UInt8)} {f x n : Int} (h : chk ps f x n = 0) : valid ps = true ∧ okR f x n = true := by
  unfold chk at h
  split at h
  · split at h
    · exact ⟨‹_›, ‹_›⟩
    · omega
  · omega

theorem chk_cases (ps : List (List UInt8)) (f x n : Int) : (chk ps f x n = 0 ∧ valid ps = true ∧ okR f x n = true) ∨ (chk ps f x n = 1 ∧ valid ps = false) ∨ (chk ps f x n = 2 ∧ valid ps = true ∧ okR f x n = false) := by
  unfold chk
  cases h : valid ps <;> cases h2 : okR f x n <;> simp

theorem chk_bad {ps : List (List UInt8)} {f x n : Int} (h : valid ps = false) : chk ps f x n = 1 := by unfold chk; simp [h]
theorem chk_out {ps : List (List UInt8)} {f x n : Int} (h : valid ps = true) (h2 : okR f x n = false) : chk ps f x n = 2 := by unfold chk; simp [h, h2]
theorem chk_ok {ps : List (List UInt8)} {f x n : Int} (h : valid ps = true) (h2 : okR f x n = true) : chk ps f x n = 0 := by unfold chk; simp [h, h2]

theorem length_put {p b : List UInt8} {x : Nat} (h : x + b.length ≤ p.length) : (put p x b).length = p.length := by unfold put; simp; omega

theorem usedTo_succ (ps : List (List UInt8)) (k : Nat) : usedTo ps (k + 1) = usedTo ps k ++ (if (ps.getD k []).any (· != 0) = true then [k] else []) := by
  unfold usedTo
  rw [List.range_succ, List.filter_append]
  congr 1
  by_cases h : (ps.getD k []).any (· != 0) = true
  · rw [if_pos h, List.filter_cons, if_pos h]; rfl
  · rw [if_neg h, List.filter_cons, if_neg h]; rfl

theorem usedTo_length (ps : List (List UInt8)) (k : Nat) : (usedTo ps k).length ≤ k := by
  unfold usedTo
  have := List.length_filter_le (fun i => (ps.getD i []).any (· != 0)) (List.range k)
  simpa using this

/-- A page has a byte other than 0, unless it is the page of zeros. -/
theorem any_zeros {p : List UInt8} (h : p.length = 128) : p.any (· != 0) = !decide (p = zeros) := by
  rw [Bool.eq_iff_iff]
  simp only [List.any_eq_true, Bool.not_eq_true', decide_eq_false_iff_not, bne_iff_ne]
  constructor
  · rintro ⟨x, hx, hne⟩ e
    rw [e] at hx
    exact hne (List.eq_of_mem_replicate hx)
  · intro hne
    refine Classical.byContradiction fun hno => hne ?_
    unfold zeros
    rw [← h]
    exact List.eq_replicate_iff.2 ⟨rfl, fun b hb => Classical.byContradiction fun hb0 => hno ⟨b, hb, hb0⟩⟩
end Fr
