/-
  Plain: Take, and its inverse, on lists of bytes. No program is named here.
-/
import Derived.Test.YtnmplcnnpkbomaaRel
import Derived.Test.YtnmplcnnpkbomaaClear
namespace Ex

theorem cl_pairwise (xs : List UInt8) (x y : Nat) : (cl xs x y).Pairwise (· < ·) := by
  unfold cl
  exact List.Pairwise.filter _ List.pairwise_lt_range'

theorem cl_nodup (xs : List UInt8) (x y : Nat) : (cl xs x y).Nodup := (cl_pairwise xs x y).imp fun h => Nat.ne_of_lt h

theorem relGo_all : ∀ (l : List Nat) (ys : List UInt8), l.Nodup → (∀ i ∈ l, i < 8 * ys.length ∧ getB ys (i : Nat) = true) → relGo ys (l.map fun i : Nat => (i : Int)) = (puts ys l false, 0)
  | [], ys, _, _ => rfl
  | i :: l, ys, hn, h => by
    obtain ⟨hi, hl⟩ := List.nodup_cons.1 hn
    have h0 := h i (by simp)
    rw [List.map_cons]
    unfold relGo
    rw [if_pos h0.2, Int.toNat_natCast, relGo_all l _ hl (fun j hj => by
      have hj' := h j (by simp [hj])
      refine ⟨by rw [length_putB]; exact hj'.1, ?_⟩
      have hne : ¬ j = i := fun e => hi (by rw [← e]; exact hj)
      rw [getB_putB ys h0.1, if_neg hne]
      exact hj'.2)]
    rfl

/-- What was taken is released: the bitmap is as before. -/
theorem release_take {xs : List UInt8} {l : List Nat} (hn : l.Nodup) (h : ∀ i ∈ l, i < 8 * xs.length ∧ getB xs (i : Nat) = false) : release (puts xs l true) (l.map fun i : Nat => (i : Int)) = (xs, 0) := by
  have hg := getB_puts true l xs (fun i hi => (h i hi).1)
  unfold release
  rw [if_pos]
  · rw [relGo_all l _ hn (fun i hi => ⟨by rw [length_puts]; exact (h i hi).1, by rw [hg, if_pos hi]⟩)]
    congr 1
    refine ext (by rw [length_puts, length_puts]) fun j hj => ?_
    rw [getB_puts false l _ (fun i hi => by rw [length_puts]; exact (h i hi).1), hg]
    by_cases hjl : j ∈ l
    · rw [if_pos hjl, (h j hjl).2]
    · rw [if_neg hjl, if_neg hjl]
  · rw [List.all_eq_true]
    intro i hi
    obtain ⟨k, hk, rfl⟩ := List.mem_map.1 hi
    unfold inR
    rw [length_puts]
    have := (h k hk).1
    simp
    omega

theorem countTo_put {xs : List UInt8} {i : Nat} (hi : i < 8 * xs.length) (hb : getB xs (i : Nat) = false) : ∀ k, countTo (putB xs i true) k = countTo xs k + if i < k then 1 else 0
  | 0 => by simp [countTo]
  | k + 1 => by
    rw [countTo_step, countTo_step, countTo_put hi hb k, getB_putB xs hi]
    by_cases h : k = i
    · subst h
      simp [hb]
    · rw [if_neg h]
      by_cases h2 : i < k
      · rw [if_pos h2, if_pos (show i < k + 1 by omega)]; omega
      · rw [if_neg h2, if_neg (show ¬ i < k + 1 by omega)]; omega

theorem countTo_puts : ∀ (l : List Nat) (xs : List UInt8) (N : Nat), l.Nodup → (∀ i ∈ l, i < N ∧ i < 8 * xs.length ∧ getB xs (i : Nat) = false) → countTo (puts xs l true) N = countTo xs N + l.length
  | [], xs, N, _, _ => rfl
  | i :: l, xs, N, hn, h => by
    obtain ⟨hi, hl⟩ := List.nodup_cons.1 hn
    have h0 := h i (by simp)
    have e : puts xs (i :: l) true = puts (putB xs i true) l true := rfl
    rw [e, countTo_puts l _ N hl (fun j hj => by
      have hj' := h j (by simp [hj])
      refine ⟨hj'.1, by rw [length_putB]; exact hj'.2.1, ?_⟩
      have hne : ¬ j = i := fun e => hi (by rw [← e]; exact hj)
      rw [getB_putB xs h0.2.1, if_neg hne]
      exact hj'.2.2), countTo_put h0.2.1 h0.2.2, if_pos h0.1, List.length_cons]
    omega

/-- The clear bits below the k-th one are the first k. -/
theorem cl_at (xs : List UInt8) {x y k : Nat} (hk : k < (cl xs x y).length) : (cl xs x (cl xs x y)[k]).length = k := by
  have hm := cl_mem.1 (List.getElem_mem hk)
  have ha := cl_append xs (x := x) (i := (cl xs x y)[k]) (y := y) hm.1 (by omega)
  generalize hmm : (cl xs x y)[k] = m at *
  have hb : cl xs m y = m :: cl xs (m + 1) y := by
    have h1 := cl_append xs (x := m) (i := m + 1) (y := y) (by omega) (by omega)
    rw [cl_clear xs (Nat.le_refl m) hm.2.2, cl_start] at h1
    exact h1
  have hn := cl_nodup xs x y
  have hl : (cl xs x m).length < (cl xs x y).length := by rw [ha, hb]; simp
  have hg : (cl xs x y)[(cl xs x m).length] = m := by
    have : (cl xs x y)[(cl xs x m).length]? = some m := by rw [ha, hb]; simp
    rw [List.getElem?_eq_getElem hl] at this
    exact Option.some.inj this
  exact (List.getElem_inj (h₀ := hl) (h₁ := hk) hn).1 (hg.trans hmm.symm)

/-- All that ExtentSpace asks of a Take that succeeds. -/
theorem take_space {xs : List UInt8} {x y n : Nat} (hok : okR xs.length x y = true) (hn : 1 ≤ n) (hl : n ≤ (cl xs x y).length) :
    ∃ L ys, take xs x y n = (L, ys, 0) ∧ L.length = n ∧ ys.length = xs.length ∧ release ys (L.map fun i : Nat => (i : Int)) = (xs, 0) ∧ countTo ys (8 * xs.length) = countTo xs (8 * xs.length) + n ∧
      ∀ k (hk : k < L.length), clearR xs x (L[k] : Nat) = ((k : Int), 0) ∧ getB xs (L[k] : Nat) = false ∧ L[k] < 8 * xs.length := by
  have hxy : x ≤ y ∧ y ≤ 8 * xs.length := by
    unfold okR at hok
    simp at hok
    omega
  have hmem : ∀ i ∈ (cl xs x y).take n, i < 8 * xs.length ∧ getB xs (i : Nat) = false := fun i hi => by
    have := cl_mem.1 (List.mem_of_mem_take hi)
    exact ⟨by omega, this.2.2⟩
  have hnd : ((cl xs x y).take n).Nodup := (cl_nodup xs x y).sublist (List.take_sublist _ _)
  have hlen : ((cl xs x y).take n).length = n := by rw [List.length_take]; omega
  refine ⟨(cl xs x y).take n, puts xs ((cl xs x y).take n) true, ?_, hlen, length_puts _ _ _, release_take hnd hmem, ?_, fun k hk => ?_⟩
  · unfold take
    rw [hok, decide_eq_true (by omega)]
    simp only [Bool.and_self, if_true, Int.toNat_natCast]
    rw [if_pos hl]
  · rw [countTo_puts _ _ _ hnd (fun i hi => ⟨(hmem i hi).1, (hmem i hi).1, (hmem i hi).2⟩), hlen]
  · have hk' : k < (cl xs x y).length := by rw [hlen] at hk; omega
    have he : ((cl xs x y).take n)[k] = (cl xs x y)[k] := List.getElem_take
    have hm := hmem _ (List.getElem_mem hk)
    have hx := cl_mem.1 (List.getElem_mem hk')
    rw [he] at hm ⊢
    refine ⟨?_, hm.2, hm.1⟩
    unfold clearR
    have : okR xs.length x ((cl xs x y)[k] : Nat) = true := by unfold okR; simp; omega
    rw [if_pos this, Int.toNat_natCast, Int.toNat_natCast, cl_at xs hk']
end Ex
