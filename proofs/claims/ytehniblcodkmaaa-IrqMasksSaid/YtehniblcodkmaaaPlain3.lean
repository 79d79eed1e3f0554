/-
  Plain: interrupts taken one after the other while one device is masked, then the rest. No program is named here.
-/
import Derived.Test.YtehniblcodkmaaaPlain2
namespace Iq

/-- Not of the device q. -/
def oth (q : Nat) (x : Ln) : Bool := decide (x.1 ≠ (q : Int))
def not_oth (q : Nat) (x : Ln) : Bool := !oth q x

theorem take_some {q : Nat} (hq : q ≤ 4) {l : List Ln} (hv : okAll l = true) (hl : l.length ≤ 32) {y : Ln} {r : List Ln} (h : l.filter (oth q) = y :: r) :
    ∃ l', take (mk q, l) = ((mk q, l'), y, true) ∧ l'.Sublist l ∧ l'.filter (oth q) = r ∧ l'.filter (not_oth q) = l.filter (not_oth q) := by
  obtain ⟨l1, l2, rfl, h1, h2, h3⟩ := List.filter_eq_cons_iff.1 h
  have hp := (okAll_pw.1 hv).1
  have hf : (l1 ++ y :: l2).findIdx? (free (mk q)) = some l1.length := by
    rw [List.findIdx?_eq_some_iff_getElem]
    refine ⟨by simp, ?_, fun j hj => ?_⟩
    · have : (l1 ++ y :: l2)[l1.length]'(by simp) = y := by simp
      rw [this, free_mk hq (hp y (by simp))]
      exact h2
    · have : (l1 ++ y :: l2)[j]'(by simp; omega) = l1[j] := by simp [hj]
      rw [this, free_mk hq (hp _ (by simp))]
      have := h1 l1[j] (List.getElem_mem hj)
      unfold oth at this
      simpa using this
  refine ⟨l1 ++ l2, ?_, ?_, ?_, ?_⟩
  · unfold take
    rw [show valid (mk q, l1 ++ y :: l2) = true by rw [valid_iff]; exact ⟨hv, hl, mk_zero hq⟩]
    simp only [hf]
    have e2 : (l1 ++ y :: l2).eraseIdx l1.length = l1 ++ l2 := by
      rw [List.eraseIdx_append_of_length_le (Nat.le_refl _)]
      simp
    have e3 : (l1 ++ y :: l2).getD l1.length zln = y := by rw [getD_at zln (by simp)]; simp
    rw [e2, e3]
    simp
  · exact List.Sublist.append (List.Sublist.refl _) (List.sublist_cons_self _ _)
  · rw [List.filter_append, h3]
    have : l1.filter (oth q) = [] := List.filter_eq_nil_iff.2 h1
    rw [this]; rfl
  · rw [List.filter_append, List.filter_append, List.filter_cons]
    have : not_oth q y = false := by unfold not_oth; rw [h2]; rfl
    rw [this]
    simp

theorem take_none {q : Nat} (hq : q ≤ 4) {l : List Ln} (hv : okAll l = true) (h : l.filter (oth q) = []) (hl : l.length ≤ 32) : take (mk q, l) = (zst, zln, false) := by
  have hp := (okAll_pw.1 hv).1
  have hf : l.findIdx? (free (mk q)) = none := by
    rw [List.findIdx?_eq_none_iff]
    intro x hx
    rw [free_mk hq (hp _ hx)]
    have := List.filter_eq_nil_iff.1 h x hx
    unfold oth at this
    simpa using this
  unfold take
  rw [show valid (mk q, l) = true by rw [valid_iff]; exact ⟨hv, hl, mk_zero hq⟩]
  simp only [hf]
  simp

theorem oth_none {q : Nat} {l : List Ln} (h : l.filter (oth q) = []) : l.filter (not_oth q) = l := by
  rw [List.filter_eq_self]
  intro x hx
  have := List.filter_eq_nil_iff.1 h x hx
  unfold not_oth
  simpa using this

theorem oth_zero {l : List Ln} (hv : okAll l = true) : l.filter (oth 0) = l := by
  rw [List.filter_eq_self]
  intro x hx
  have := proper_iff.1 ((okAll_pw.1 hv).1 x hx)
  unfold oth
  simp
  omega

theorem not_oth_zero {l : List Ln} (hv : okAll l = true) : l.filter (not_oth 0) = [] := by
  rw [List.filter_eq_nil_iff]
  intro x hx
  have := proper_iff.1 ((okAll_pw.1 hv).1 x hx)
  unfold not_oth oth
  simp
  omega

section
variable {p : Ln → Bool} {ls : List Ln} {i : Nat}
theorem filt_yes (hi : i < ls.length) (h : p ls[i] = true) : ((ls.take (i + 1)).filter p).length = ((ls.take i).filter p).length + 1 := by
  rw [List.take_succ_eq_append_getElem hi, List.filter_append]
  simp [h]
theorem filt_no (hi : i < ls.length) (h : p ls[i] = false) : ((ls.take (i + 1)).filter p).length = ((ls.take i).filter p).length := by
  rw [List.take_succ_eq_append_getElem hi, List.filter_append]
  simp [h]
theorem filt_at (hi : i < ls.length) (h : p ls[i] = true) : ∃ hk : ((ls.take i).filter p).length < (ls.filter p).length, (ls.filter p)[((ls.take i).filter p).length] = ls[i] := by
  have e : ls.filter p = (ls.take i).filter p ++ ls[i] :: (ls.drop (i + 1)).filter p := by
    conv => lhs; rw [← List.take_append_drop i ls, List.filter_append, List.drop_eq_getElem_cons hi, List.filter_cons, h]
    rfl
  refine ⟨by rw [e]; simp, ?_⟩
  simp [e]
end
theorem filt_le (p : Ln → Bool) (ls : List Ln) : (ls.filter p).length ≤ ls.length := List.length_filter_le _ _
/-- The device that is masked in round k; what is pending when it begins; what it takes. -/
def qk (m k : Nat) : Nat := if k = 0 then m else 0
def stk (m : Nat) (ls : List Ln) (k : Nat) : List Ln := if k = 0 then ls else if k = 1 then ls.filter (not_oth m) else []
def partk (m : Nat) (ls : List Ln) (k : Nat) : List Ln := if k = 0 then ls.filter (oth m) else ls.filter (not_oth m)

theorem qk_le {m : Nat} (hm : m ≤ 4) (k : Nat) : qk m k ≤ 4 := by unfold qk; split <;> omega
theorem stk_sub (m : Nat) (ls : List Ln) (k : Nat) : (stk m ls k).Sublist ls := by
  unfold stk
  split
  · exact List.Sublist.refl _
  · split
    · exact List.filter_sublist
    · exact List.nil_sublist _
theorem stk_oth {m : Nat} {ls : List Ln} (hv : okAll ls = true) {k : Nat} (hk : k < 2) : (stk m ls k).filter (oth (qk m k)) = partk m ls k := by
  match k, hk with
  | 0, _ => rfl
  | 1, _ => exact oth_zero (okAll_sub hv List.filter_sublist)
theorem stk_not {m : Nat} {ls : List Ln} (hv : okAll ls = true) {k : Nat} (hk : k < 2) : (stk m ls k).filter (not_oth (qk m k)) = stk m ls (k + 1) := by
  match k, hk with
  | 0, _ => rfl
  | 1, _ => exact not_oth_zero (okAll_sub hv List.filter_sublist)
theorem qk_succ (m k : Nat) : mk (qk m (k + 1)) = nomask := by unfold qk; rw [if_neg (by omega)]; rfl
theorem mask_st {m : Nat} (h1 : 1 ≤ m) (hm : m ≤ 4) {ls : List Ln} (hv : okAll ls = true) (hl : ls.length ≤ 32) {k : Nat} (hk : k < 2) :
    mask (mk (qk m k), stk m ls (k + 1)) (m : Int) false = ((nomask, stk m ls (k + 1)), 0) := by
  have h2 : okAll (stk m ls (k + 1)) = true := okAll_sub hv (stk_sub m ls _)
  have h3 : (stk m ls (k + 1)).length ≤ 32 := Nat.le_trans (stk_sub m ls _).length_le hl
  match k, hk with
  | 0, _ => exact mask_off h1 hm h2 h3
  | 1, _ =>
    have hv' : valid (nomask, stk m ls 2) = true := by rw [valid_iff]; exact ⟨h2, h3, rfl⟩
    have hd : device (m : Int) = true := by unfold device; simp; omega
    show mask (nomask, stk m ls 2) (m : Int) false = _
    unfold mask
    rw [hv', hd]
    have e : nomask.set m false = nomask := by
      match m, h1, hm with
      | 1, _, _ => rfl
      | 2, _, _ => rfl
      | 3, _, _ => rfl
      | 4, _, _ => rfl
    simp [e]
theorem partk_le (m : Nat) (ls : List Ln) (k : Nat) : (partk m ls k).length ≤ ls.length := by unfold partk; split <;> exact List.length_filter_le _ _

/-- What the round of a state l comes to at its end. -/
theorem round_end {m : Nat} {ls l : List Ln} {k j : Nat} (h0 : (partk m ls k).drop j = []) (h1 : l.filter (oth (qk m k)) = (partk m ls k).drop j) (h2 : l.filter (not_oth (qk m k)) = stk m ls (k + 1)) :
    l = stk m ls (k + 1) ∧ (partk m ls k).take j = partk m ls k := by
  refine ⟨?_, ?_⟩
  · rw [← h2]; exact (oth_none (h1.trans h0)).symm
  · rw [List.take_of_length_le]
    exact List.drop_eq_nil_iff.1 h0
/-- One more is taken. -/
theorem round_step {m : Nat} (hm : m ≤ 4) {ls l : List Ln} {k j : Nat} {y : Ln} {r : List Ln} (hv : okAll ls = true) (hl : ls.length ≤ 32) (hs : l.Sublist ls) (h0 : (partk m ls k).drop j = y :: r) (h1 : l.filter (oth (qk m k)) = (partk m ls k).drop j) (h2 : l.filter (not_oth (qk m k)) = stk m ls (k + 1)) :
    ∃ l', take (mk (qk m k), l) = ((mk (qk m k), l'), y, true) ∧ l'.Sublist ls ∧ l'.filter (oth (qk m k)) = (partk m ls k).drop (j + 1) ∧ l'.filter (not_oth (qk m k)) = stk m ls (k + 1) ∧ (partk m ls k).take (j + 1) = (partk m ls k).take j ++ [y] := by
  obtain ⟨l', e1, e2, e3, e4⟩ := take_some (qk_le hm k) (okAll_sub hv hs) (Nat.le_trans hs.length_le hl) (h1.trans h0)
  have hj : j < (partk m ls k).length := by
    rcases Nat.lt_or_ge j (partk m ls k).length with h | h
    · exact h
    · rw [List.drop_eq_nil_iff.2 h] at h0; cases h0
  rw [List.drop_eq_getElem_cons hj] at h0
  injection h0 with h5 h6
  refine ⟨l', e1, e2.trans hs, e3.trans h6.symm, e4.trans h2, ?_⟩
  rw [List.take_succ_eq_append_getElem hj, h5]
theorem round_none {m : Nat} (hm : m ≤ 4) {ls l : List Ln} {k j : Nat} (hv : okAll ls = true) (hl : ls.length ≤ 32) (hs : l.Sublist ls) (h0 : (partk m ls k).drop j = []) (h1 : l.filter (oth (qk m k)) = (partk m ls k).drop j) :
    take (mk (qk m k), l) = (zst, zln, false) := take_none (qk_le hm k) (okAll_sub hv hs) (h1.trans h0) (Nat.le_trans hs.length_le hl)
end Iq
