/-
  Plain: interrupts taken while one device is masked. No program is named here.
-/
import Derived.Test.YtehniblcodkmaaaPlain
namespace Iq

theorem okAll_pw {l : List Ln} : okAll l = true ↔ (∀ x ∈ l, proper x = true) ∧ l.Pairwise (fun a b => twin b a = false) := by
  rw [okAll_iff]
  constructor
  · intro h
    refine ⟨fun x hx => ?_, ?_⟩
    · obtain ⟨k, hk, rfl⟩ := List.getElem_of_mem hx
      exact (h k hk).1
    · rw [List.pairwise_iff_getElem]
      intro i j hi hj hij
      have h2 := (h j hj).2
      unfold pend at h2
      rw [List.any_eq_false] at h2
      have := h2 l[i] (by rw [List.mem_take_iff_getElem]; exact ⟨i, by omega, rfl⟩)
      simpa using this
  · rintro ⟨h1, h2⟩ k hk
    refine ⟨h1 _ (List.getElem_mem hk), ?_⟩
    unfold pend
    rw [List.any_eq_false]
    intro x hx
    obtain ⟨i, hi, rfl⟩ := List.mem_take_iff_getElem.1 hx
    have := List.pairwise_iff_getElem.1 h2 i k (by omega) hk (by omega)
    rw [this]
    simp

theorem okAll_sub {l l' : List Ln} (h : okAll l = true) (hs : l'.Sublist l) : okAll l' = true := by
  rw [okAll_pw] at h ⊢
  exact ⟨fun x hx => h.1 x (hs.subset hx), h.2.sublist hs⟩

/-- The masks with one device masked; none for 0. -/
def mk (m : Nat) : List Bool := if m = 0 then nomask else nomask.set m true

theorem mk_get {m : Nat} (hm : m ≤ 4) (i : Nat) (hi : 1 ≤ i ∧ i ≤ 4) : (mk m).getD i false = decide (i = m) := by
  match m, hm, i, hi with
  | 0, _, 1, _ => rfl
  | 0, _, 2, _ => rfl
  | 0, _, 3, _ => rfl
  | 0, _, 4, _ => rfl
  | 1, _, 1, _ => rfl
  | 1, _, 2, _ => rfl
  | 1, _, 3, _ => rfl
  | 1, _, 4, _ => rfl
  | 2, _, 1, _ => rfl
  | 2, _, 2, _ => rfl
  | 2, _, 3, _ => rfl
  | 2, _, 4, _ => rfl
  | 3, _, 1, _ => rfl
  | 3, _, 2, _ => rfl
  | 3, _, 3, _ => rfl
  | 3, _, 4, _ => rfl
  | 4, _, 1, _ => rfl
  | 4, _, 2, _ => rfl
  | 4, _, 3, _ => rfl
  | 4, _, 4, _ => rfl

theorem mk_zero {m : Nat} (hm : m ≤ 4) : (mk m).getD 0 false = false := by
  match m, hm with
  | 0, _ => rfl
  | 1, _ => rfl
  | 2, _ => rfl
  | 3, _ => rfl
  | 4, _ => rfl

theorem free_mk {m : Nat} (hm : m ≤ 4) {x : Ln} (hx : proper x = true) : free (mk m) x = decide (x.1 ≠ (m : Int)) := by
  have h := proper_iff.1 hx
  unfold free
  rw [mk_get hm _ (by omega)]
  rw [Bool.eq_iff_iff]
  simp
  omega

/-- What is pending behind k rounds: of the first k those of the masked device, and all the others. -/
def keepL (m : Nat) (ls : List Ln) (k : Nat) : List Ln := (ls.take k).filter (fun l => decide (l.1 = (m : Int))) ++ ls.drop k
/-- What is left behind k rounds. -/
def leftL (m : Nat) (ls : List Ln) (k : Nat) : List Ln := (ls.take k).filter (fun l => decide (l.1 = (m : Int)))

theorem keepL_sub (m : Nat) (ls : List Ln) (k : Nat) : (keepL m ls k).Sublist ls := by
  have h : (ls.take k ++ ls.drop k) = ls := List.take_append_drop k ls
  unfold keepL
  conv => rhs; rw [← h]
  exact List.Sublist.append List.filter_sublist (List.Sublist.refl _)

theorem keepL_zero (m : Nat) (ls : List Ln) : keepL m ls 0 = ls := by unfold keepL; simp
theorem leftL_zero (m : Nat) (ls : List Ln) : leftL m ls 0 = [] := by unfold leftL; simp
theorem keepL_end (m : Nat) (ls : List Ln) : keepL m ls ls.length = leftL m ls ls.length := by unfold keepL leftL; simp

theorem leftL_yes {m : Nat} {ls : List Ln} {k : Nat} (hk : k < ls.length) (h : ls[k].1 = (m : Int)) : leftL m ls (k + 1) = leftL m ls k ++ [ls[k]] := by
  unfold leftL
  rw [List.take_succ_eq_append_getElem hk, List.filter_append]
  simp [h]
theorem leftL_no {m : Nat} {ls : List Ln} {k : Nat} (hk : k < ls.length) (h : ls[k].1 ≠ (m : Int)) : leftL m ls (k + 1) = leftL m ls k := by
  unfold leftL
  rw [List.take_succ_eq_append_getElem hk, List.filter_append]
  simp [h]
theorem keepL_yes {m : Nat} {ls : List Ln} {k : Nat} (hk : k < ls.length) (h : ls[k].1 = (m : Int)) : keepL m ls (k + 1) = keepL m ls k := by
  show leftL m ls (k + 1) ++ ls.drop (k + 1) = leftL m ls k ++ ls.drop k
  rw [leftL_yes hk h, List.append_assoc, List.drop_eq_getElem_cons hk]
  rfl
theorem keepL_no {m : Nat} {ls : List Ln} {k : Nat} (hk : k < ls.length) (h : ls[k].1 ≠ (m : Int)) : keepL m ls (k + 1) = leftL m ls k ++ ls.drop (k + 1) := by
  show leftL m ls (k + 1) ++ ls.drop (k + 1) = _
  rw [leftL_no hk h]

theorem leftL_mem {m : Nat} {ls : List Ln} {k : Nat} {x : Ln} (h : x ∈ leftL m ls k) : x ∈ ls ∧ x.1 = (m : Int) := by
  unfold leftL at h
  rw [List.mem_filter] at h
  exact ⟨List.mem_of_mem_take h.1, by simpa using h.2⟩

theorem valid_keep {m : Nat} (hm : m ≤ 4) {ls : List Ln} (hv : okAll ls = true) (hl : ls.length ≤ 32) (k : Nat) : valid (mk m, keepL m ls k) = true := by
  rw [valid_iff]
  exact ⟨okAll_sub hv (keepL_sub m ls k), Nat.le_trans (keepL_sub m ls k).length_le hl, mk_zero hm⟩

/-- The next one is taken. -/
theorem take_keep {m : Nat} (hm : m ≤ 4) {ls : List Ln} (hv : okAll ls = true) (hl : ls.length ≤ 32) {k : Nat} (hk : k < ls.length) (h : ls[k].1 ≠ (m : Int)) :
    take (mk m, keepL m ls k) = ((mk m, keepL m ls (k + 1)), ls[k], true) := by
  have hp := (okAll_pw.1 hv).1
  have e : keepL m ls k = leftL m ls k ++ ls[k] :: ls.drop (k + 1) := by
    show leftL m ls k ++ ls.drop k = _
    rw [List.drop_eq_getElem_cons hk]
  have hf : (keepL m ls k).findIdx? (free (mk m)) = some (leftL m ls k).length := by
    rw [List.findIdx?_eq_some_iff_getElem]
    refine ⟨by rw [e]; simp; omega, ?_, fun j hj => ?_⟩
    · have : (keepL m ls k)[(leftL m ls k).length]'(by rw [e]; simp; omega) = ls[k] := by simp [e]
      rw [this, free_mk hm (hp _ (List.getElem_mem hk))]
      simpa using h
    · have hj' : j < (keepL m ls k).length := by rw [e]; simp; omega
      have : (keepL m ls k)[j] = (leftL m ls k)[j] := by simp [e, hj]
      rw [this]
      have hmem := leftL_mem (List.getElem_mem hj)
      rw [free_mk hm (hp _ hmem.1)]
      simp [hmem.2]
  unfold take
  rw [valid_keep hm hv hl k]
  simp only [hf]
  have e2 : (keepL m ls k).eraseIdx (leftL m ls k).length = keepL m ls (k + 1) := by
    rw [keepL_no hk h, e, List.eraseIdx_append_of_length_le (Nat.le_refl _)]
    simp
  have e3 : (keepL m ls k).getD (leftL m ls k).length zln = ls[k] := by rw [getD_at zln (by rw [e]; simp; omega)]; simp [e]
  rw [e2, e3]
  simp

/-- At the end nothing more is taken. -/
theorem take_end {m : Nat} (hm : m ≤ 4) {ls : List Ln} (hv : okAll ls = true) (hl : ls.length ≤ 32) : take (mk m, keepL m ls ls.length) = (zst, zln, false) := by
  have hp := (okAll_pw.1 hv).1
  have hf : (keepL m ls ls.length).findIdx? (free (mk m)) = none := by
    rw [List.findIdx?_eq_none_iff, keepL_end]
    intro x hx
    have hmem := leftL_mem hx
    rw [free_mk hm (hp _ hmem.1)]
    simp [hmem.2]
  unfold take
  rw [valid_keep hm hv hl]
  simp only [hf]
  simp

theorem mask_on {m : Nat} (h1 : 1 ≤ m) (hm : m ≤ 4) {ls : List Ln} (hv : okAll ls = true) (hl : ls.length ≤ 32) : mask (nomask, ls) (m : Int) true = ((mk m, ls), 0) := by
  have hv' : valid (nomask, ls) = true := by rw [valid_iff]; exact ⟨hv, hl, rfl⟩
  have hd : device (m : Int) = true := by unfold device; simp; omega
  unfold mask
  rw [hv', hd]
  simp [mk]
  omega

theorem mk_off {m : Nat} (h1 : 1 ≤ m) (hm : m ≤ 4) : (mk m).set m false = nomask := by
  match m, h1, hm with
  | 1, _, _ => rfl
  | 2, _, _ => rfl
  | 3, _, _ => rfl
  | 4, _, _ => rfl

theorem mask_off {m : Nat} (h1 : 1 ≤ m) (hm : m ≤ 4) {l : List Ln} (hv : okAll l = true) (hl : l.length ≤ 32) : mask (mk m, l) (m : Int) false = ((nomask, l), 0) := by
  have hv' : valid (mk m, l) = true := by rw [valid_iff]; exact ⟨hv, hl, mk_zero hm⟩
  have hd : device (m : Int) = true := by unfold device; simp; omega
  unfold mask
  rw [hv', hd]
  simp [mk_off h1 hm]
end Iq
