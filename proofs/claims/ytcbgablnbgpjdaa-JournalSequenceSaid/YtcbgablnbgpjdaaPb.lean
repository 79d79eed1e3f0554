/-
  Plain: what a log that reads holds; the writes of a recovery may be applied. No program is named here.
-/
import Derived.Test.YtcbgablnbgpjdaaPa
namespace Jr
theorem valid_all {l : List Wr} (h : valid l = true) : (∀ x ∈ l, home x.1 = true ∧ x.2.length = 128) ∧ (l.map Prod.fst).Nodup ∧ 1 ≤ l.length ∧ l.length ≤ 11 := by
  unfold valid apart at h
  simp only [Bool.and_eq_true, List.all_eq_true, decide_eq_true_eq] at h
  obtain ⟨h1, h2, h3, h4⟩ := h
  refine ⟨fun x hx => ?_, h2, h3, h4⟩
  have := h1 x hx
  unfold good at this
  simpa using this
theorem home_iff (n : Int) : home n = true ↔ 0 ≤ n ∧ n < 96 ∧ (n < 1 ∨ 12 < n) := by
  unfold home
  simp only [Bool.and_eq_true, Bool.or_eq_true, decide_eq_true_eq]
theorem fits_of (x : Wr) : fits x = true ↔ 0 ≤ x.1 ∧ x.1 < 96 ∧ x.2.length = 128 := by
  unfold fits
  simp only [Bool.and_eq_true, decide_eq_true_eq]
theorem mk_len' (c : UInt8) (bl : List Int) (seq : Int) (sl : List UInt8) : (mk c bl seq sl).length = 128 := by
  unfold mk
  rw [List.length_append, List.length_append, pre_len, num_nat, numN_len, List.length_replicate]
theorem homes_fit {l : List Wr} (h : l = [] ∨ valid l = true) (seq : Int) : ∀ x ∈ homes seq l, fits x = true := by
  intro x hx
  unfold homes at hx
  rw [fits_of]
  rcases List.mem_append.1 hx with hx | hx
  · rcases h with rfl | h
    · cases hx
    · have := (valid_all h).1 x hx
      rw [home_iff] at this
      omega
  · simp at hx
    subst hx
    exact ⟨show (0 : Int) ≤ 1 by omega, show (1 : Int) < 96 by omega, mk_len' _ _ _ _⟩
theorem seq_bound (d : List UInt8) (hd : d.length = 12288) : 0 ≤ seqOf d ∧ seqOf d < 4294967296 := by
  have hl := blk_len d 1 (by omega)
  have h4 : (((blk d 1).drop 16).take 4).length = 4 := by simp; omega
  have h5 := horn_lt (((blk d 1).drop 16).take 4)
  rw [h4] at h5
  have h6 : (256 : Nat) ^ 4 = 4294967296 := by decide
  unfold seqOf
  rw [get_nat _ (by omega)]
  omega
theorem read_ok {d : List UInt8} {n : Int} {l : List Wr} (h : read d = (n, l, 0)) : d.length = 12288 ∧ n = seqOf d ∧ l = logged d (cnt (blk d 1)) ∧ cnt (blk d 1) ≤ 11 ∧ (l = [] ∨ valid l = true) := by
  rw [← pread_eq] at h
  unfold pread at h
  by_cases hd : d.length = 12288
  · rw [if_neg (show ¬ d.length ≠ 12288 by simpa using hd)] at h
    by_cases hf : formOk (blk d 1) = false
    · rw [if_pos hf] at h
      simp at h
    · rw [if_neg hf] at h
      split at h
      · simp at h
      · simp only [Prod.mk.injEq, and_true] at h
        obtain ⟨rfl, rfl⟩ := h
        have hf' : formOk (blk d 1) = true := by simpa using hf
        have hc : cnt (blk d 1) ≤ 11 := by
          unfold formOk leadOk at hf'
          simp only [Bool.and_eq_true, Bool.or_eq_true, decide_eq_true_eq] at hf'
          omega
        refine ⟨hd, rfl, rfl, hc, ?_⟩
        by_cases h0 : 0 < cnt (blk d 1)
        · right
          rw [valid_logged d hd _ h0 hc]
          intro i hi
          unfold formOk at hf'
          simp only [Bool.and_eq_true] at hf'
          have := (entOk_iff _).1 hf'.2.1 i (by omega)
          unfold entAt at this
          rw [if_neg (by omega)] at this
          simpa using this
        · left
          exact List.eq_nil_of_length_eq_zero (by rw [logged_len]; omega)
  · rw [if_pos hd] at h
    simp at h
theorem apply_all {d : List UInt8} {l : List Wr} (hd : d.length = 12288) (h : ∀ x ∈ l, fits x = true) : apply d l = (app d l, 0) := by
  unfold apply
  rw [if_neg (show ¬ d.length ≠ 12288 by simpa using hd)]
  exact if_pos (List.all_eq_true.2 h)
end Jr
