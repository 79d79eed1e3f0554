/-
  Plain: what writes leave of a disk, block by block. No program is named here.
-/
import Derived.Test.YtcbgablnbgpjdaaPb
namespace Jr
theorem put_length (d : List UInt8) (p : Nat) (s : List UInt8) (h : p + s.length ≤ d.length) : (put d p s).length = d.length := by
  unfold put
  rw [List.length_append, List.length_append, List.length_take, List.length_drop]
  omega
theorem put_get (d : List UInt8) (p : Nat) (s : List UInt8) (h : p + s.length ≤ d.length) (j : Nat) : (put d p s)[j]? = if j < p then d[j]? else if j < p + s.length then s[j - p]? else d[j]? := by
  unfold put
  rw [List.append_assoc, List.getElem?_append]
  have e : (d.take p).length = p := by rw [List.length_take]; omega
  rw [e]
  by_cases h1 : j < p
  · rw [if_pos h1, if_pos h1, List.getElem?_take, if_pos h1]
  · rw [if_neg h1, if_neg h1, List.getElem?_append]
    by_cases h2 : j < p + s.length
    · rw [if_pos (by omega), if_pos h2]
    · rw [if_neg (by omega), if_neg h2, List.getElem?_drop]
      congr 1
      omega
theorem app_length {d : List UInt8} {l : List Wr} (hd : d.length = 12288) (h : ∀ x ∈ l, fits x = true) : (app d l).length = 12288 := by
  induction l generalizing d with
  | nil => exact hd
  | cons x l ih =>
    have hx := (fits_of x).1 (h x List.mem_cons_self)
    exact ih (by rw [put_length _ _ _ (by omega), hd]) fun y hy => h y (List.mem_cons_of_mem _ hy)
theorem app_append (d : List UInt8) (l m : List Wr) : app d (l ++ m) = app (app d l) m := by
  induction l generalizing d with
  | nil => rfl
  | cons x l ih => exact ih _

theorem logs_len (l : List Wr) : (logs l).length = l.length := by simp [logs]
theorem logs_get (l : List Wr) (k : Nat) (hk : k < l.length) : (logs l)[k]'(by rw [logs_len]; exact hk) = (((2 + k : Nat) : Int), l[k].2) := by
  unfold logs
  simp [List.getD, hk]
theorem logs_take (l : List Wr) (k : Nat) (hk : k < l.length) : (logs l).take (k + 1) = (logs l).take k ++ [(((2 + k : Nat) : Int), l[k].2)] := by
  rw [List.take_succ_eq_append_getElem (by rw [logs_len]; exact hk), logs_get l k hk]
theorem logs_fit {l : List Wr} (h : valid l = true) : ∀ x ∈ logs l, fits x = true := by
  intro x hx
  obtain ⟨k, hk, rfl⟩ := List.getElem_of_mem hx
  rw [logs_len] at hk
  rw [logs_get l k hk, fits_of]
  have h1 := valid_all h
  have h2 := (h1.1 _ (List.getElem_mem hk)).2
  exact ⟨show (0 : Int) ≤ ((2 + k : Nat) : Int) by omega, show ((2 + k : Nat) : Int) < 96 by omega, h2⟩
theorem slots_put (d : List UInt8) (hd : d.length = 12288) (i : Nat) (hi : i ≤ 10) (s : List UInt8) (hs : s.length = 128) : slots (put d ((2 + i) * 128) s) = put (slots d) (i * 128) s := by
  have hl : (slots d).length = 1408 := by unfold slots; simp; omega
  apply List.ext_getElem?
  intro j
  rw [put_get _ _ _ (by rw [hl, hs]; omega)]
  unfold slots
  rw [List.getElem?_take, List.getElem?_drop, put_get _ _ _ (by rw [hd, hs]; omega), List.getElem?_take, List.getElem?_drop, hs]
  by_cases h1 : j < i * 128
  · rw [if_pos (by omega), if_pos (by omega), if_pos h1, if_pos (by omega)]
  · rw [if_neg h1]
    by_cases h2 : j < i * 128 + 128
    · rw [if_pos (by omega), if_neg (by omega), if_pos (by omega), if_pos h2]
      congr 1
      omega
    · rw [if_neg h2]
      by_cases h3 : j < 1408
      · rw [if_pos h3, if_neg (by omega), if_neg (by omega), if_pos h3]
      · rw [if_neg h3, if_neg h3]
/-- The slots behind k writes of the log. -/
def allN (d : List UInt8) (l : List Wr) (k : Nat) : List UInt8 := slots (app d ((logs l).take k))
theorem allN_len (d : List UInt8) (hd : d.length = 12288) (l : List Wr) (h : valid l = true) (k : Nat) : (allN d l k).length = 1408 := by
  unfold allN slots
  have := app_length hd (l := (logs l).take k) fun x hx => logs_fit h x (List.mem_of_mem_take hx)
  rw [List.length_take, List.length_drop, this]
  rfl
theorem allN_step (d : List UInt8) (hd : d.length = 12288) (l : List Wr) (h : valid l = true) (k : Nat) (hk : k < l.length) : allN d l (k + 1) = put (allN d l k) (k * 128) l[k].2 := by
  have h1 := valid_all h
  have h2 := (h1.1 _ (List.getElem_mem hk)).2
  unfold allN
  rw [logs_take l k hk, app_append]
  show slots (put _ ((((2 + k : Nat) : Int)).toNat * 128) l[k].2) = _
  rw [show (((2 + k : Nat) : Int)).toNat = 2 + k by omega]
  exact slots_put _ (app_length hd fun x hx => logs_fit h x (List.mem_of_mem_take hx)) k (by omega) _ h2
theorem allN_zero (d : List UInt8) (l : List Wr) : allN d l 0 = slots d := rfl
theorem allN_all (d : List UInt8) (l : List Wr) : allN d l l.length = slots (app d (logs l)) := by
  unfold allN
  rw [List.take_of_length_le (by rw [logs_len]; exact Nat.le_refl _)]
end Jr
