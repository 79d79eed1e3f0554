/-
  Plain lists: what the functions of sched and of its reference compute. No program is named here.
-/
namespace Sq

/-- The first place at which `p` holds, or -1. -/
def idx (p : Int → Bool) (xs : List Int) : Int := match xs.findIdx? p with | some i => (i : Int) | none => -1

theorem idx_none {p : Int → Bool} {xs : List Int} (h : ∀ i (hi : i < xs.length), p xs[i] = false) : idx p xs = -1 := by
  unfold idx
  have : xs.findIdx? p = none := by
    rw [List.findIdx?_eq_none_iff]
    intro x hx
    obtain ⟨i, hi, rfl⟩ := List.getElem_of_mem hx
    exact h i hi
  rw [this]

theorem idx_some {p : Int → Bool} {xs : List Int} {k : Nat} (hk : k < xs.length) (hp : p xs[k] = true) (h : ∀ i (hi : i < xs.length), i < k → p xs[i] = false) : idx p xs = k := by
  unfold idx
  have : xs.findIdx? p = some k := by
    rw [List.findIdx?_eq_some_iff_getElem]
    exact ⟨hk, hp, fun j hj => by simpa using h j (by omega) hj⟩
  rw [this]

theorem idx_cases (p : Int → Bool) (xs : List Int) : (idx p xs = -1 ∧ ∀ i (hi : i < xs.length), p xs[i] = false) ∨
    ∃ k, ∃ hk : k < xs.length, idx p xs = (k : Int) ∧ p xs[k] = true ∧ ∀ i (hi : i < xs.length), i < k → p xs[i] = false := by
  cases h : xs.findIdx? p with
  | none =>
    left
    refine ⟨by unfold idx; rw [h], fun i hi => ?_⟩
    rw [List.findIdx?_eq_none_iff] at h
    exact h _ (List.getElem_mem hi)
  | some k =>
    right
    have h' := h
    rw [List.findIdx?_eq_some_iff_getElem] at h'
    obtain ⟨hk, hp, hn⟩ := h'
    exact ⟨k, hk, by unfold idx; rw [h], hp, fun i hi hik => by simpa using hn i hik⟩

/-- A task's number. -/
def task (n : Int) : Bool := decide (1 ≤ n) && decide (n < 32)

/-- The first k elements are tasks, none twice. -/
def good (xs : List Int) (k : Nat) : Bool := task (xs.getD k 0) && decide (idx (fun y => xs.getD k 0 == y) (xs.take k) < 0)

def valid (xs : List Int) : Bool := (List.range xs.length).all fun k => good xs k

theorem valid_true {xs : List Int} (h : ∀ k, k < xs.length → good xs k = true) : valid xs = true := by
  unfold valid
  rw [List.all_eq_true]
  intro k hk
  exact h k (by simpa using hk)

theorem valid_false {xs : List Int} {k : Nat} (hk : k < xs.length) (h : good xs k = false) : valid xs = false := by
  unfold valid
  rw [List.all_eq_false]
  exact ⟨k, by simpa using hk, by simp [h]⟩

theorem good_eq {xs : List Int} {k : Nat} (hk : k < xs.length) : good xs k = (task xs[k] && (idx (fun y => xs[k] == y) xs == (k : Int))) := by
  have hg : xs.getD k 0 = xs[k] := by simp [List.getD, hk]
  unfold good
  rw [hg]
  congr 1
  rcases idx_cases (fun y => xs[k] == y) (xs.take k) with ⟨e, hn⟩ | ⟨i, hi, e, hp, _⟩
  · have : idx (fun y => xs[k] == y) xs = k := idx_some hk (by simp) fun i hi hik => by
      have := hn i (by simp; omega)
      rw [List.getElem_take] at this
      exact this
    rw [e, this]; simp
  · have hi' : i < k := by simp at hi; omega
    rw [List.getElem_take] at hp
    have : idx (fun y => xs[k] == y) xs ≠ k := by
      rcases idx_cases (fun y => xs[k] == y) xs with ⟨e', hn⟩ | ⟨j, hj, e', _, hn⟩
      · rw [e']; omega
      · rw [e']
        intro hjk
        have := hn i (by omega) (by omega)
        rw [this] at hp; cases hp
    rw [e]
    have h1 : ¬ ((i : Int) < 0) := by omega
    rw [beq_eq_false_iff_ne.2 this, decide_eq_false h1]

/-- A task is ready by bits. -/
def ready (bits n : Int) : Bool := decide (0 ≤ n) && decide (n < 32) && (bits / 2 ^ n.toNat % 2 == 1)

theorem valid_task {xs : List Int} (h : valid xs = true) {k : Nat} (hk : k < xs.length) : 1 ≤ xs[k] ∧ xs[k] < 32 := by
  unfold valid at h
  rw [List.all_eq_true] at h
  have := h k (by simpa using hk)
  simp [good, task, List.getD, hk] at this
  exact this.1

/-- What Next returns: the queue, the task, and whether there is one. -/
def next (r : Int → Bool) (xs : List Int) : List Int × Int × Bool :=
  if valid xs then
    if idx r xs < 0 then (xs, 0, false)
    else (xs.take (idx r xs).toNat ++ xs.drop ((idx r xs).toNat + 1) ++ [xs.getD (idx r xs).toNat 0], xs.getD (idx r xs).toNat 0, true)
  else ([], 0, false)

theorem next_bad {r : Int → Bool} {xs : List Int} (h : valid xs = false) : next r xs = ([], 0, false) := by simp [next, h]
theorem next_none {r : Int → Bool} {xs : List Int} (h : valid xs = true) (hi : idx r xs = -1) : next r xs = (xs, 0, false) := by simp [next, h, hi]
theorem next_some {r : Int → Bool} {xs : List Int} (h : valid xs = true) {k : Nat} (hk : k < xs.length) (hi : idx r xs = k) : next r xs = (xs.take k ++ xs.drop (k + 1) ++ [xs[k]], xs[k], true) := by
  have h0 : ¬ ((k : Int) < 0) := by omega
  simp [next, h, hi, h0, List.getD, hk]
end Sq

namespace Sq
/-- What Remove returns: the queue and the error's number. -/
def remove (xs : List Int) (t : Int) : List Int × Int :=
  if valid xs then
    if idx (fun y => t == y) xs < 0 then ([], 8)
    else (xs.take (idx (fun y => t == y) xs).toNat ++ xs.drop ((idx (fun y => t == y) xs).toNat + 1), 0)
  else ([], 1)

theorem remove_bad {xs : List Int} {t : Int} (h : valid xs = false) : remove xs t = ([], 1) := by simp [remove, h]
theorem remove_none {xs : List Int} {t : Int} (h : valid xs = true) (hi : idx (fun y => t == y) xs = -1) : remove xs t = ([], 8) := by simp [remove, h, hi]
theorem remove_some {xs : List Int} {t : Int} (h : valid xs = true) {k : Nat} (hi : idx (fun y => t == y) xs = k) : remove xs t = (xs.take k ++ xs.drop (k + 1), 0) := by
  have h0 : ¬ ((k : Int) < 0) := by omega
  simp [remove, h, hi, h0]

/-- What Add returns. -/
def add (xs : List Int) (t : Int) : List Int × Int :=
  if valid xs then
    if task t then if 0 ≤ idx (fun y => t == y) xs then ([], 9) else (xs ++ [t], 0)
    else ([], 2)
  else ([], 1)

theorem add_bad {xs : List Int} {t : Int} (h : valid xs = false) : add xs t = ([], 1) := by simp [add, h]
theorem add_range {xs : List Int} {t : Int} (h : valid xs = true) (ht : task t = false) : add xs t = ([], 2) := by simp [add, h, ht]
theorem add_there {xs : List Int} {t : Int} (h : valid xs = true) (ht : task t = true) (hi : 0 ≤ idx (fun y => t == y) xs) : add xs t = ([], 9) := by simp [add, h, ht, hi]
theorem add_new {xs : List Int} {t : Int} (h : valid xs = true) (ht : task t = true) (hi : ¬ 0 ≤ idx (fun y => t == y) xs) : add xs t = (xs ++ [t], 0) := by simp [add, h, ht, hi]
end Sq
