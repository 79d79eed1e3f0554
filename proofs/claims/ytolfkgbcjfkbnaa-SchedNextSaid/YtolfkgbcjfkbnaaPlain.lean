/-
  Plain lists: laws of valid queues and of Next, with no program in sight.
-/
import Derived.Test.YtolfkgbcjfkbnaaSpec
namespace Sq

theorem idx_neg_iff {p : Int → Bool} {xs : List Int} : idx p xs < 0 ↔ ∀ x ∈ xs, p x = false := by
  rcases idx_cases p xs with ⟨e, h⟩ | ⟨k, hk, e, hp, _⟩
  · rw [e]
    refine ⟨fun _ x hx => ?_, fun _ => by omega⟩
    obtain ⟨i, hi, rfl⟩ := List.getElem_of_mem hx
    exact h i hi
  · rw [e]
    refine ⟨fun h => by omega, fun h => ?_⟩
    have := h _ (List.getElem_mem hk)
    rw [hp] at this; cases this

theorem valid_iff {xs : List Int} : valid xs = true ↔ (∀ x ∈ xs, task x = true) ∧ xs.Nodup := by
  have hg : ∀ k (hk : k < xs.length), good xs k = true ↔ task xs[k] = true ∧ ∀ i (_ : i < k), xs[i]'(by omega) ≠ xs[k] := by
    intro k hk
    have h0 : xs.getD k 0 = xs[k] := by simp [List.getD, hk]
    unfold good
    rw [h0, Bool.and_eq_true, decide_eq_true_iff, idx_neg_iff]
    refine and_congr_right fun _ => ?_
    constructor
    · intro h i hi e
      have := h (xs[i]'(by omega)) (List.mem_take_iff_getElem.2 ⟨i, by omega, rfl⟩)
      simp [e] at this
    · intro h x hx
      obtain ⟨i, hi, rfl⟩ := List.mem_take_iff_getElem.1 hx
      have := h i (by omega)
      rw [beq_eq_false_iff_ne]
      exact fun e => this e.symm
  unfold valid
  rw [List.all_eq_true]
  constructor
  · intro h
    refine ⟨fun x hx => ?_, ?_⟩
    · obtain ⟨k, hk, rfl⟩ := List.getElem_of_mem hx
      exact ((hg k hk).1 (h k (by simpa using hk))).1
    · rw [List.nodup_iff_pairwise_ne, List.pairwise_iff_getElem]
      intro i j hi hj hij
      exact ((hg j hj).1 (h j (by simpa using hj))).2 i hij
  · rintro ⟨h1, h2⟩ k hk
    have hk' : k < xs.length := by simpa using hk
    rw [hg k hk']
    refine ⟨h1 _ (List.getElem_mem hk'), fun i hi => ?_⟩
    rw [List.nodup_iff_pairwise_ne, List.pairwise_iff_getElem] at h2
    exact h2 i k (by omega) hk' hi

theorem next_perm {r : Int → Bool} {xs : List Int} (h : valid xs = true) : (next r xs).1.Perm xs := by
  rcases idx_cases r xs with ⟨e, _⟩ | ⟨k, hk, e, _, _⟩
  · rw [next_none h e]
  · rw [next_some h hk e]
    have hx : xs = xs.take k ++ ([xs[k]] ++ xs.drop (k + 1)) := by
      rw [← List.append_assoc, List.take_append_getElem, List.take_append_drop]
    show (xs.take k ++ xs.drop (k + 1) ++ [xs[k]]).Perm xs
    conv => rhs; rw [hx]
    rw [List.append_assoc]
    exact (List.Perm.refl _).append List.perm_append_comm

theorem valid_perm {xs ys : List Int} (h : xs.Perm ys) : valid xs = valid ys := by
  have : valid xs = true ↔ valid ys = true := by
    rw [valid_iff, valid_iff]
    exact and_congr ⟨fun hx y hy => hx y (h.mem_iff.2 hy), fun hy x hx => hy x (h.mem_iff.1 hx)⟩ h.nodup_iff
  cases hx : valid xs <;> cases hy : valid ys <;> simp_all

theorem next_valid (r : Int → Bool) (xs : List Int) : valid (next r xs).1 = true := by
  cases h : valid xs with
  | false => rw [next_bad h]; rfl
  | true => rw [valid_perm (next_perm h), h]
end Sq
namespace Sq
theorem next_length (r : Int → Bool) (xs : List Int) : (next r xs).1.length ≤ xs.length := by
  cases h : valid xs with
  | false => rw [next_bad h]; simp
  | true => rw [(next_perm h).length_eq]; exact Nat.le_refl _
end Sq
