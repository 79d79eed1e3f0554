/-
  Plain lists: laws of valid queues and of Next, with no program in sight.
-/
import Derived.Test.YtolfkgbcjfkbnaaSpec
namespace Sq

theorem idx_neg_iff {p : Int → Bool} {xs : List Int} : idx p xs < 0 ↔ ∀ x ∈ xs, p x = false := by
  rcases idx_cases p xs with ⟨e, h⟩ | ⟨k, hk, e, hp, _⟩
  · rw [e]
    refine ⟨fun _ x hx => ?_, fun _ => by omega⟩
    obtain ⟨i, hi, rfl⟩ := List.getElem_of_mem hx
    exact h i hi
  · rw [e]
    refine ⟨fun h => by omega, fun h => ?_⟩
    have := h _ (List.getElem_mem hk)
    rw [hp] at this; cases this

theorem valid_iff {xs : List Int} : valid xs = true ↔ (∀ x ∈ xs, task x = true) ∧ xs.Nodup := by
  have hg : ∀ k (hk : k < xs.length), good xs k = true ↔ task xs[k] = true ∧ ∀ i (_ : i < k), xs[i]'(by omega) ≠ xs[k] := by
    intro k hk
    have h0 : xs.getD k 0 = xs[k] := by simp [List.getD, hk]
    unfold good
    rw [h0, Bool.and_eq_true, decide_eq_true_iff, idx_neg_iff]
    refine and_congr_right fun _ => ?_
    constructor
    · intro h i hi e
      have := h (xs[i]'(by omega)) (List.mem_take_iff_getElem.2 ⟨i, by omega, rfl⟩)
      simp [e] at this
    · intro h x hx
      obtain ⟨i, hi, rfl⟩ := List.mem_take_iff_getElem.1 hx
      have := h i (by omega)
      rw [beq_eq_false_iff_ne]
      exact fun e => this e.symm
  unfold valid
  rw [List.all_eq_true]
  constructor
  · intro h
    refine ⟨fun x hx => ?_, ?_⟩
    · obtain ⟨k, hk, rfl⟩ := List.getElem_of_mem hx
      exact ((hg k hk).1 (h k (by simpa using hk))).1
    · rw [List.nodup_iff_pairwise_ne, List.pairwise_iff_getElem]
      intro i j hi hj hij
      exact ((hg j hj).1 (h j (by simpa using hj))).2 i hij
  · rintro ⟨h1, h2⟩ k hk
    have hk' : k < xs.length := by simpa using hk
    rw [hg k hk']
    refine ⟨h1 _ (List.getElem_mem hk'), fun i hi => ?_⟩
    rw [List.nodup_iff_pairwise_ne, List.pairwise_iff_getElem] at h2
    exact h2 i k (by omega) hk' hi

theorem next_perm {r : Int → Bool} {xs : List Int} (h : valid xs = true) : (next r xs).1.Perm xs := by
  rcases idx_cases r xs with ⟨e, _⟩ | ⟨k, hk, e, _, _⟩
  · rw [next_none h e]
  · rw [next_some h hk e]
    have hx : xs = xs.take k ++ ([xs[k]] ++ xs.drop (k + 1)) := by
      rw [← List.append_assoc, List.take_append_getElem, List.take_append_drop]
    show (xs.take k ++ xs.drop (k + 1) ++ [xs[k]]).Perm xs
    conv => rhs; rw [hx]
    rw [List.append_assoc]
    exact (List.Perm.refl _).append List.perm_append_comm

theorem valid_perm {xs ys : List Int} (h : xs.Perm ys) : valid xs = valid ys := by
  have : valid xs = true ↔ valid ys = true := by
    rw [valid_iff, valid_iff]
    exact and_congr ⟨fun hx y hy => hx y (h.mem_iff.2 hy), fun hy x hx => hy x (h.mem_iff.1 hx)⟩ h.nodup_iff
  cases hx : valid xs <;> cases hy : valid ys <;> simp_all

theorem next_valid (r : Int → Bool) (xs : List Int) : valid (next r xs).1 = true := by
  cases h : valid xs with
  | false => rw [next_bad h]; rfl
  | true => rw [valid_perm (next_perm h), h]
end Sq
namespace Sq
theorem next_length (r : Int → Bool) (xs : List Int) : (next r xs).1.length ≤ xs.length := by
  cases h : valid xs with
  | false => rw [next_bad h]; simp
  | true => rw [(next_perm h).length_eq]; exact Nat.le_refl _
end Sq
namespace Sq

theorem idx_at {t : Int} {xs : List Int} {k : Nat} (hk : k < xs.length) (h : xs[k] = t) (hn : ∀ j (_ : j < k), xs[j]'(by omega) ≠ t) : idx (fun y => t == y) xs = k :=
  idx_some hk (by simp [h]) fun i hi hik => by
    rw [beq_eq_false_iff_ne]
    exact fun e => hn i hik e.symm

theorem nodup_ne {xs : List Int} (h : xs.Nodup) {i j : Nat} (hi : i < xs.length) (hj : j < xs.length) (hij : i < j) : xs[i] ≠ xs[j] := by
  rw [List.nodup_iff_pairwise_ne, List.pairwise_iff_getElem] at h
  exact h i j hi hj hij

theorem mem_idx {t : Int} {xs : List Int} : 0 ≤ idx (fun y => t == y) xs ↔ t ∈ xs := by
  have h := idx_neg_iff (p := fun y => t == y) (xs := xs)
  constructor
  · intro h0
    apply Classical.byContradiction
    intro hn
    have := h.2 (fun x hx => by rw [beq_eq_false_iff_ne]; intro e; exact hn (e ▸ hx))
    omega
  · intro hm
    apply Classical.byContradiction
    intro hn
    have := h.1 (by omega) t hm
    simp at this

theorem remove_valid (xs : List Int) (t : Int) : valid (remove xs t).1 = true := by
  cases h : valid xs with
  | false => rw [remove_bad h]; rfl
  | true =>
    rcases idx_cases (fun y => t == y) xs with ⟨e, _⟩ | ⟨k, hk, e, _, _⟩
    · rw [remove_none h e]; rfl
    · rw [remove_some h e]
      have hv := valid_iff.1 h
      have hsub : (xs.take k ++ xs.drop (k + 1)).Sublist xs := by
        have hx : xs = xs.take k ++ ([xs[k]] ++ xs.drop (k + 1)) := by
          rw [← List.append_assoc, List.take_append_getElem, List.take_append_drop]
        conv => rhs; rw [hx]
        exact (List.Sublist.refl _).append (List.sublist_append_right _ _)
      exact valid_iff.2 ⟨fun x hx => hv.1 x (hsub.subset hx), hsub.nodup hv.2⟩

theorem add_valid (xs : List Int) (t : Int) : valid (add xs t).1 = true := by
  cases h : valid xs with
  | false => rw [add_bad h]; rfl
  | true =>
    cases ht : task t with
    | false => rw [add_range h ht]; rfl
    | true =>
      by_cases hi : 0 ≤ idx (fun y => t == y) xs
      · rw [add_there h ht hi]; rfl
      · rw [add_new h ht hi]
        have hv := valid_iff.1 h
        have hni : t ∉ xs := fun hm => hi (mem_idx.2 hm)
        refine valid_iff.2 ⟨fun x hx => ?_, ?_⟩
        · rcases List.mem_append.1 hx with hx | hx
          · exact hv.1 x hx
          · simp at hx; rw [hx]; exact ht
        · rw [List.nodup_append]
          refine ⟨hv.2, by simp, fun a ha b hb => ?_⟩
          simp at hb
          subst hb
          exact fun e => hni (e ▸ ha)

theorem remove_length (xs : List Int) (t : Int) : (remove xs t).1.length ≤ xs.length := by
  unfold remove
  split
  · split
    · simp
    · simp; omega
  · simp

theorem add_length (xs : List Int) (t : Int) : (add xs t).1.length ≤ xs.length + 1 := by
  unfold add
  (repeat' split) <;> simp

/-- Behind `ys` that lack t, t is removed from the end. -/
theorem remove_last {ys : List Int} {t : Int} (hv : valid (ys ++ [t]) = true) : remove (ys ++ [t]) t = (ys, 0) := by
  have hn := (valid_iff.1 hv).2
  have hidx : idx (fun y => t == y) (ys ++ [t]) = (ys.length : Nat) := idx_at (by simp) (by simp) fun j hj e => by
    have := nodup_ne hn (i := j) (j := ys.length) (by simp; omega) (by simp) hj
    rw [e] at this
    simp at this
  rw [remove_some hv hidx]
  simp

theorem remove_at {xs : List Int} (hv : valid xs = true) {k : Nat} (hk : k < xs.length) : remove xs xs[k] = (xs.take k ++ xs.drop (k + 1), 0) :=
  remove_some hv (idx_at hk rfl fun _ hj => nodup_ne (valid_iff.1 hv).2 _ hk hj)

theorem next_cases {r : Int → Bool} {xs : List Int} (hv : valid xs = true) :
    (next r xs = (xs, 0, false) ∧ ∀ x ∈ xs, r x = false) ∨
    ∃ k, ∃ hk : k < xs.length, next r xs = (xs.take k ++ xs.drop (k + 1) ++ [xs[k]], xs[k], true) ∧ r xs[k] = true ∧ ∀ j (_ : j < k), r (xs[j]'(by omega)) = false := by
  rcases idx_cases r xs with ⟨e, h⟩ | ⟨k, hk, e, hp, hn⟩
  · refine .inl ⟨next_none hv e, fun x hx => ?_⟩
    obtain ⟨i, hi, rfl⟩ := List.getElem_of_mem hx
    exact h i hi
  · exact .inr ⟨k, hk, next_some hv hk e, hp, fun j hj => hn j (by omega) hj⟩

/-- What Next does to the ready tasks in their order: the first goes to the end. -/
theorem next_filter {r : Int → Bool} {xs : List Int} (hv : valid xs = true) {f : Int} {rest : List Int} (h : xs.filter r = f :: rest) :
    ∃ l, next r xs = (l, f, true) ∧ valid l = true ∧ l.filter r = rest ++ [f] ∧ l.length = xs.length := by
  rcases next_cases (r := r) hv with ⟨_, hno⟩ | ⟨k, hk, e, hp, hn⟩
  · have : xs.filter r = [] := by rw [List.filter_eq_nil_iff]; intro x hx; simp [hno x hx]
    rw [this] at h; cases h
  · have hx : xs = xs.take k ++ ([xs[k]] ++ xs.drop (k + 1)) := by
      rw [← List.append_assoc, List.take_append_getElem, List.take_append_drop]
    have htk : (xs.take k).filter r = [] := by
      rw [List.filter_eq_nil_iff]
      intro x hx
      obtain ⟨i, hi, rfl⟩ := List.mem_take_iff_getElem.1 hx
      simp [hn i (by omega)]
    have hf : xs.filter r = xs[k] :: (xs.drop (k + 1)).filter r := by
      conv => lhs; rw [hx]
      rw [List.filter_append, htk, List.filter_append]
      simp [hp]
    rw [hf] at h
    obtain ⟨rfl, rfl⟩ := List.cons.inj h
    have hpm := next_perm (r := r) hv
    have hvl := next_valid r xs
    rw [e] at hpm hvl
    refine ⟨_, e, hvl, ?_, hpm.length_eq⟩
    rw [List.filter_append, List.filter_append, htk]
    simp [hp]

/-- A task that is ready is picked, or moves one place ahead. -/
theorem next_ahead {r : Int → Bool} {xs : List Int} (hv : valid xs = true) {p : Nat} {t : Int} (hp : xs[p]? = some t) (ht : r t = true) :
    ∃ l u, next r xs = (l, u, true) ∧ valid l = true ∧ l.length = xs.length ∧ (u = t ∨ (u ≠ t ∧ 0 < p ∧ l[p - 1]? = some t)) := by
  obtain ⟨hpl, hpt⟩ := List.getElem?_eq_some_iff.1 hp
  rcases next_cases (r := r) hv with ⟨_, hno⟩ | ⟨k, hk, e, hpk, hn⟩
  · have := hno t (hpt ▸ List.getElem_mem hpl)
    rw [ht] at this; cases this
  · have hpm := next_perm (r := r) hv
    have hvl := next_valid r xs
    rw [e] at hpm hvl
    refine ⟨_, _, e, hvl, hpm.length_eq, ?_⟩
    by_cases hu : xs[k] = t
    · exact .inl hu
    · right
      have hkp : k < p := by
        rcases Nat.lt_trichotomy k p with h | h | h
        · exact h
        · subst h; exact absurd hpt hu
        · have := hn p h; rw [hpt, ht] at this; cases this
      refine ⟨hu, by omega, ?_⟩
      rw [List.append_assoc, List.getElem?_append_right (by simp; omega), List.getElem?_append_left (by simp; omega), List.getElem?_drop]
      rw [show k + 1 + (p - 1 - (List.take k xs).length) = p by simp; omega]
      exact hp

theorem ready_testBit {b n : Int} (hb : 0 ≤ b) (h0 : 0 ≤ n) (h1 : n < 32) : ready b n = b.toNat.testBit n.toNat := by
  obtain ⟨b, rfl⟩ := Int.eq_ofNat_of_zero_le hb
  obtain ⟨n, rfl⟩ := Int.eq_ofNat_of_zero_le h0
  have : ((b : Int) / 2 ^ n % 2) = ((b / 2 ^ n % 2 : Nat) : Int) := by simp
  rw [Int.toNat_natCast, Int.toNat_natCast, Nat.testBit_eq_decide_div_mod_eq]
  unfold ready
  rw [Int.toNat_natCast, this]
  simp [h1]
  rw [Bool.eq_iff_iff]
  simp
  omega

theorem ready_or {a b : Nat} {x : Int} (h0 : 0 ≤ x) (h1 : x < 32) : ready ((a ||| b : Nat) : Int) x = (ready a x || ready b x) := by
  rw [ready_testBit (by omega) h0 h1, ready_testBit (by omega) h0 h1, ready_testBit (by omega) h0 h1]
  simp

theorem ready_pow {t x : Int} (t0 : 0 ≤ t) (h0 : 0 ≤ x) (h1 : x < 32) : ready ((2 ^ t.toNat : Nat) : Int) x = decide (t = x) := by
  rw [ready_testBit (Int.natCast_nonneg _) h0 h1, Int.toNat_natCast, Nat.testBit_two_pow]
  have : (t.toNat = x.toNat) ↔ t = x := by omega
  simp [this]

theorem ready_all {x : Int} (h : task x = true) : ready 4294967295 x = true := by
  simp [task] at h
  rw [ready_testBit (by omega) (by omega) (by omega)]
  have : (4294967295 : Int).toNat = 2 ^ 32 - 1 := rfl
  rw [this, Nat.testBit_two_pow_sub_one]
  simp
  omega

theorem ready_zero (x : Int) : ready 0 x = false := by simp [ready]
end Sq
namespace Sq
theorem add_ok {xs la : List Int} {t : Int} (h : add xs t = (la, 0)) : la = xs ++ [t] := by
  cases hv : valid xs with
  | false => rw [add_bad hv] at h; simp at h
  | true =>
    cases ht : task t with
    | false => rw [add_range hv ht] at h; simp at h
    | true =>
      by_cases hi : 0 ≤ idx (fun y => t == y) xs
      · rw [add_there hv ht hi] at h; simp at h
      · rw [add_new hv ht hi] at h
        exact (Prod.mk.inj h).1.symm

theorem filter_all {xs : List Int} {r : Int → Bool} (hv : valid xs = true) (hr : ∀ x, task x = true → r x = true) : xs.filter r = xs :=
  List.filter_eq_self.2 fun x hx => hr x ((valid_iff.1 hv).1 x hx)

/-- A round in which all tasks are ready. -/
theorem next_turn {xs l : List Int} {i : Nat} (hi : i < xs.length) (hv : valid l = true) (hl : l = xs.drop i ++ xs.take i) :
    ∃ l', next (ready 4294967295) l = (l', xs[i], true) ∧ valid l' = true ∧ l' = xs.drop (i + 1) ++ xs.take (i + 1) ∧ l'.length = xs.length := by
  have hf : l.filter (ready 4294967295) = xs[i] :: (xs.drop (i + 1) ++ xs.take i) := by
    rw [filter_all hv fun x hx => ready_all hx, hl, List.drop_eq_getElem_cons hi]; rfl
  obtain ⟨l', h1, h2, h3, h4⟩ := next_filter hv hf
  refine ⟨l', h1, h2, ?_, ?_⟩
  · rw [filter_all h2 fun x hx => ready_all hx] at h3
    rw [h3, List.append_assoc, List.take_append_getElem]
  · rw [h4, hl]; simp; omega
end Sq
