/-
  Plain: Runs and Indices. No program is named here.
-/
namespace Ri
abbrev Run := Int × Int

/-- The last run is longer by one. -/
def bump (out : List Run) : List Run := out.dropLast ++ (match out.getLast? with | some r => [(r.1, r.2 + 1)] | none => [])
def st (s : List Run × Option Int) (i : Int) : List Run × Option Int := (if s.2 = some (i - 1) then bump s.1 else s.1 ++ [(i, 1)], some i)
def go (l : List Int) : List Run × Option Int := l.foldl st ([], none)
/-- An index that Runs accepts behind prev. -/
def okI (prev : Option Int) (i : Int) : Bool := decide (0 ≤ i) && (decide (i ≤ 1073741824) && (match prev with | some p => decide (p < i) | none => true))
/-- All of a list is accepted. -/
def okL : Option Int → List Int → Bool
  | _, [] => true
  | p, i :: t => okI p i && okL (some i) t
def runs (l : List Int) : List Run × Int := if l.length ≤ 4096 ∧ okL none l = true then ((go l).1, 0) else ([], 1)

def okR (e : Int) (r : Run) : Bool := decide (1 ≤ r.2) && (decide (e < r.1) && (decide (r.1 ≤ 1073741824) && decide (r.2 - 1 ≤ 1073741824 - r.1)))
def okRs : Int → List Run → Bool
  | _, [] => true
  | e, r :: t => okR e r && okRs (r.1 + r.2) t
def total (rs : List Run) : Int := (rs.map (·.2)).foldl (· + ·) 0
def expand (r : Run) : List Int := (List.range r.2.toNat).map fun k : Nat => r.1 + (k : Int)
def flat (rs : List Run) : List Int := rs.flatMap expand
def indices (rs : List Run) : List Int × Int := if okRs (-1) rs = true then (if total rs ≤ 4096 then (flat rs, 0) else ([], 6)) else ([], 1)

theorem bump_snoc (out : List Run) (r : Run) : bump (out ++ [r]) = out ++ [(r.1, r.2 + 1)] := by
  unfold bump
  simp

theorem go_snoc (l : List Int) (i : Int) : go (l ++ [i]) = st (go l) i := by unfold go; rw [List.foldl_append]; rfl

theorem go_prev (l : List Int) (i : Int) : (go (l ++ [i])).2 = some i := by rw [go_snoc]; rfl

theorem okL_append (p : Option Int) : ∀ (l t : List Int), okL p (l ++ t) = (okL p l && okL (match l.getLast? with | some q => some q | none => p) t)
  | [], t => by simp [okL]
  | i :: l, t => by
    rw [List.cons_append, okL, okL, okL_append (some i) l t, Bool.and_assoc]
    congr 2
    cases l with
    | nil => rfl
    | cons a l => simp only [List.getLast?_cons_cons]; rw [List.getLast?_eq_some_getLast (List.cons_ne_nil a l)]
termination_by l => l.length

theorem okL_app (l t : List Int) : okL none (l ++ t) = (okL none l && okL l.getLast? t) := by
  rw [okL_append]
  congr 2
  cases l.getLast? <;> rfl

theorem expand_succ (f : Int) (n : Nat) : expand (f, ((n + 1 : Nat) : Int)) = expand (f, (n : Int)) ++ [f + n] := by
  unfold expand
  simp [List.range_succ]

theorem total_snoc (rs : List Run) (r : Run) : total (rs ++ [r]) = total rs + r.2 := by
  unfold total
  rw [List.map_append, List.foldl_append]
  rfl

theorem okRs_snoc (e : Int) : ∀ (rs : List Run) (r : Run), okRs e (rs ++ [r]) = (okRs e rs && okR (match rs.getLast? with | some q => q.1 + q.2 | none => e) r)
  | [], r => by simp [okRs]
  | q :: rs, r => by
    rw [List.cons_append, okRs, okRs, okRs_snoc _ rs r, Bool.and_assoc]
    congr 2
    cases rs with
    | nil => rfl
    | cons a rs => simp only [List.getLast?_cons_cons]; rw [List.getLast?_eq_some_getLast (List.cons_ne_nil a rs)]
termination_by rs => rs.length

theorem flat_snoc (rs : List Run) (r : Run) : flat (rs ++ [r]) = flat rs ++ expand r := by unfold flat; simp

/-- The state of Runs behind a list that is accepted. -/
def Inv (l : List Int) (out : List Run) : Prop :=
  flat out = l ∧ okRs (-1) out = true ∧ total out = l.length ∧ (∀ r, out.getLast? = some r → l.getLast? = some (r.1 + r.2 - 1)) ∧ (out = [] ↔ l = [])

theorem inv_step {l : List Int} {out : List Run} {i : Int} (h : Inv l out) (hi : okI l.getLast? i = true) :
    Inv (l ++ [i]) (st (out, l.getLast?) i).1 := by
  obtain ⟨h1, h2, h3, h4, h5⟩ := h
  unfold okI at hi
  simp only [Bool.and_eq_true, decide_eq_true_eq] at hi
  obtain ⟨hi0, hi1, hi2⟩ := hi
  unfold st
  simp only
  rcases List.eq_nil_or_concat out with rfl | ⟨os, r, rfl⟩
  · have hl : l = [] := h5.1 rfl
    subst hl
    rw [if_neg (by simp)]
    refine ⟨by simp [flat, expand], ?_, by simp [total], ?_, by simp⟩
    · simp [okRs, okR]; omega
    · intro r hr
      simp at hr
      subst hr
      simp
  · rw [List.concat_eq_append] at *
    have hlast := h4 r (by simp)
    have hr := h2
    rw [okRs_snoc, Bool.and_eq_true] at hr
    obtain ⟨hos, hrr⟩ := hr
    have hrr' := hrr
    unfold okR at hrr'
    simp only [Bool.and_eq_true, decide_eq_true_eq] at hrr'
    obtain ⟨q1, q2, q3, q4⟩ := hrr'
    rw [hlast] at hi2 ⊢
    simp only [decide_eq_true_eq] at hi2
    obtain ⟨f, n⟩ := r
    simp only at *
    obtain ⟨m, rfl⟩ := Int.eq_ofNat_of_zero_le (by omega : 0 ≤ n)
    by_cases he : i = f + m
    · rw [if_pos (by rw [he]), bump_snoc]
      refine ⟨?_, ?_, ?_, ?_, by simp⟩
      · rw [flat_snoc] at h1 ⊢
        have := expand_succ f m
        simp only at this ⊢
        rw [show ((m : Int) + 1) = ((m + 1 : Nat) : Int) by omega, this, ← List.append_assoc, h1, he]
      · rw [okRs_snoc, Bool.and_eq_true]
        refine ⟨hos, ?_⟩
        unfold okR at hrr ⊢
        simp only [Bool.and_eq_true, decide_eq_true_eq] at hrr ⊢
        omega
      · rw [total_snoc] at h3 ⊢
        simp only [List.length_append, List.length_cons, List.length_nil] at h3 ⊢
        omega
      · intro r hr
        simp at hr
        subst hr
        simp; omega
    · rw [if_neg (by
        intro e
        injection e with e
        omega)]
      refine ⟨?_, ?_, ?_, ?_, by simp⟩
      · rw [flat_snoc, h1]
        simp [expand]
      · rw [okRs_snoc, Bool.and_eq_true]
        refine ⟨h2, ?_⟩
        simp only [List.getLast?_append, List.getLast?_singleton, Option.some_or]
        unfold okR
        simp only [Bool.and_eq_true, decide_eq_true_eq]
        omega
      · rw [total_snoc, h3]
        simp
      · intro r hr
        simp at hr
        subst hr
        simp

theorem go_last : ∀ l : List Int, (go l).2 = l.getLast? := by
  intro l
  rcases List.eq_nil_or_concat l with rfl | ⟨t, i, rfl⟩
  · rfl
  · rw [List.concat_eq_append, go_prev]; simp

/-- Runs of a list that is accepted. -/
theorem inv_go : ∀ (n : Nat) (l : List Int), l.length = n → okL none l = true → Inv l (go l).1
  | 0, l, hl, _ => by
    obtain rfl : l = [] := List.eq_nil_of_length_eq_zero hl
    exact ⟨rfl, rfl, rfl, by simp [go], by simp [go]⟩
  | n + 1, l, hl, hok => by
    rcases List.eq_nil_or_concat l with rfl | ⟨t, i, rfl⟩
    · simp at hl
    · rw [List.concat_eq_append] at *
      rw [okL_append, Bool.and_eq_true] at hok
      have ht := inv_go n t (by simpa using hl) hok.1
      have hi : okI t.getLast? i = true := by
        have h2 := hok.2
        have e : (match t.getLast? with | some q => some q | none => none) = t.getLast? := by cases t.getLast? <;> rfl
        rw [e] at h2
        simpa [okL] using h2
      have := inv_step ht hi
      rw [go_snoc]
      have e : st (go t) i = st ((go t).1, t.getLast?) i := by rw [← go_last]
      rw [e]
      exact this

/-- Indices inverts Runs. -/
theorem indices_runs {l : List Int} (hl : l.length ≤ 200) (h : (runs l).2 = 0) : indices (runs l).1 = (l, 0) := by
  unfold runs at h ⊢
  split at h
  · rename_i hh
    rw [if_pos hh]
    obtain ⟨h1, h2, h3, _, _⟩ := inv_go _ l rfl hh.2
    unfold indices
    simp only
    rw [if_pos h2, if_pos (by omega), h1]
  · simp at h

theorem expand_last (f : Int) (n : Nat) : (expand (f, (n : Int))).getLast? = if n = 0 then none else some (f + n - 1) := by
  cases n with
  | zero => simp [expand]
  | succ n => rw [expand_succ]; simp; omega

theorem expand_len (f : Int) (n : Nat) : (expand (f, (n : Int))).length = n := by unfold expand; simp

theorem okL_expand (p : Option Int) (f : Int) (hp : ∀ q, p = some q → q < f) (h0 : 0 ≤ f) : ∀ n : Nat, f + n - 1 ≤ 1073741824 → okL p (expand (f, (n : Int))) = true
  | 0, _ => by simp [expand, okL]
  | n + 1, h => by
    rw [expand_succ, okL_append, okL_expand p f hp h0 n (by omega), Bool.true_and, expand_last]
    unfold okL okL okI
    by_cases hn : n = 0
    · subst hn
      rw [if_pos rfl]
      simp only [Bool.and_true, Bool.and_eq_true, decide_eq_true_eq]
      refine ⟨by omega, by omega, ?_⟩
      cases p with
      | none => rfl
      | some q => have := hp q rfl; simp; omega
    · rw [if_neg hn]
      simp only [Bool.and_true, Bool.and_eq_true, decide_eq_true_eq]
      omega

theorem fold_expand (out : List Run) (p : Option Int) (f : Int) (hp : p ≠ some (f - 1)) : ∀ n : Nat, (expand (f, ((n + 1 : Nat) : Int))).foldl st (out, p) = (out ++ [(f, ((n + 1 : Nat) : Int))], some (f + n))
  | 0 => by
    simp [expand, st, hp]
  | n + 1 => by
    rw [expand_succ, List.foldl_append, fold_expand out p f hp n]
    simp only [List.foldl_cons, List.foldl_nil, st]
    rw [if_pos (by congr 1; omega), bump_snoc]
    simp

/-- Runs of the indices of runs that Indices accepts. -/
theorem go_flat : ∀ (n : Nat) (rs : List Run), rs.length = n → okRs (-1) rs = true →
    go (flat rs) = (rs, rs.getLast?.map fun r => r.1 + r.2 - 1) ∧ okL none (flat rs) = true ∧ ((flat rs).length : Int) = total rs ∧ 0 ≤ total rs
  | 0, rs, hl, _ => by
    obtain rfl : rs = [] := List.eq_nil_of_length_eq_zero hl
    exact ⟨rfl, rfl, rfl, Int.le_refl _⟩
  | n + 1, rs, hl, hok => by
    rcases List.eq_nil_or_concat rs with rfl | ⟨t, ⟨f, m⟩, rfl⟩
    · simp at hl
    · rw [List.concat_eq_append] at *
      rw [okRs_snoc, Bool.and_eq_true] at hok
      obtain ⟨h1, h2, h3, h4⟩ := go_flat n t (by simpa using hl) hok.1
      have hr := hok.2
      unfold okR at hr
      simp only [Bool.and_eq_true, decide_eq_true_eq] at hr
      obtain ⟨q1, q2, q3, q4⟩ := hr
      obtain ⟨k, rfl⟩ : ∃ k : Nat, m = ((k + 1 : Nat) : Int) := ⟨(m - 1).toNat, by omega⟩
      have hlast : (flat t).getLast? = t.getLast?.map fun r => r.1 + r.2 - 1 := by rw [← go_last, h1]
      have hf0 : 0 ≤ f := by
        rcases List.eq_nil_or_concat t with rfl | ⟨t', r', rfl⟩
        · simp at q2; omega
        · rw [List.concat_eq_append] at *
          have := hok.1
          rw [okRs_snoc, Bool.and_eq_true] at this
          have h' := this.2
          unfold okR at h'
          simp only [Bool.and_eq_true, decide_eq_true_eq] at h'
          simp at q2
          -- the run before begins at 0 or later
          have hm : okL none (flat (t' ++ [r'])) = true := h2
          rw [flat_snoc, okL_append, Bool.and_eq_true] at hm
          have hz : 0 ≤ r'.1 := by
            obtain ⟨f', m'⟩ := r'
            obtain ⟨k', rfl⟩ : ∃ k : Nat, m' = ((k + 1 : Nat) : Int) := ⟨(m' - 1).toNat, by simp at h'; omega⟩
            have hx := hm.2
            have he : expand (f', ((k' + 1 : Nat) : Int)) = f' :: (List.range k').map fun j : Nat => f' + ((j + 1 : Nat) : Int) := by
              unfold expand
              rw [Int.toNat_natCast, List.range_succ_eq_map]
              simp [Function.comp_def]
            rw [he] at hx
            unfold okL okI at hx
            simp only [Bool.and_eq_true, decide_eq_true_eq] at hx
            exact hx.1.1
          omega
      refine ⟨?_, ?_, ?_, ?_⟩
      · rw [flat_snoc]
        unfold go at h1 ⊢
        rw [List.foldl_append, h1, fold_expand]
        · simp; omega
        · intro e
          cases ht : t.getLast? with
          | none => rw [ht] at e; simp at e
          | some r =>
            rw [ht] at e q2
            simp at e q2
            omega
      · rw [flat_snoc, okL_append, h2, Bool.true_and]
        refine okL_expand _ f ?_ hf0 (k + 1) (by omega)
        intro q hq
        rw [hlast] at hq
        cases ht : t.getLast? with
        | none => rw [ht] at hq; simp at hq
        | some r =>
          rw [ht] at hq q2
          simp at hq q2
          omega
      · rw [flat_snoc, List.length_append, total_snoc, expand_len]
        simp only
        omega
      · rw [total_snoc]
        simp only
        omega

/-- Runs inverts Indices. -/
theorem runs_indices {rs : List Run} (h : (indices rs).2 = 0) : runs (indices rs).1 = (rs, 0) := by
  unfold indices at h ⊢
  split at h
  · rename_i hok
    split at h
    · rename_i ht
      rw [if_pos hok, if_pos ht]
      obtain ⟨h1, h2, h3, _⟩ := go_flat _ rs rfl hok
      unfold runs
      simp only
      rw [if_pos ⟨by omega, h2⟩, h1]
    · simp at h
  · simp at h

theorem okRs_mem : ∀ (rs : List Run) (e : Int), okRs e rs = true → ∀ r ∈ rs, 1 ≤ r.2 ∧ r.2 ≤ 1073741824 - e ∧ e < r.1 ∧ r.1 ≤ 1073741824
  | [], _, _, _, hr => by simp at hr
  | q :: t, e, h, r, hr => by
    rw [okRs, Bool.and_eq_true] at h
    have h1 := h.1
    unfold okR at h1
    simp only [Bool.and_eq_true, decide_eq_true_eq] at h1
    rcases List.mem_cons.1 hr with rfl | hr
    · omega
    · have := okRs_mem t _ h.2 r hr
      omega

/-- Where the last run ends. -/
def endOf (rs : List Run) : Int := (rs.getLast?.map fun q => q.1 + q.2).getD (-1)

theorem okRs_app1 (rs : List Run) (r : Run) : okRs (-1) (rs ++ [r]) = (okRs (-1) rs && okR (endOf rs) r) := by
  rw [okRs_snoc]
  congr 1
  unfold endOf
  cases rs.getLast? <;> rfl

theorem endOf_snoc (rs : List Run) (r : Run) : endOf (rs ++ [r]) = r.1 + r.2 := by unfold endOf; simp

theorem okRs_pre : ∀ (a b : List Run) (e : Int), okRs e (a ++ b) = true → okRs e a = true
  | [], _, _, _ => rfl
  | r :: a, b, e, h => by
    rw [List.cons_append, okRs, Bool.and_eq_true] at h
    rw [okRs, h.1, okRs_pre a b _ h.2, Bool.true_and]

theorem okRs_step {rs : List Run} {k : Nat} (hk : k < rs.length) (h : okRs (-1) (rs.take k) = true) (hr : okR (endOf (rs.take k)) rs[k] = true) : okRs (-1) (rs.take (k + 1)) = true := by
  rw [List.take_succ_eq_append_getElem hk, okRs_app1, h, hr]; rfl

theorem okRs_bad {rs : List Run} {k : Nat} (hk : k < rs.length) (hr : okR (endOf (rs.take k)) rs[k] = false) : indices rs = ([], 1) := by
  unfold indices
  rw [if_neg]
  intro h
  have h1 : rs = rs.take (k + 1) ++ rs.drop (k + 1) := (List.take_append_drop _ _).symm
  rw [h1] at h
  have h2 := okRs_pre _ _ _ h
  rw [List.take_succ_eq_append_getElem hk, okRs_app1, hr] at h2
  simp at h2

theorem endOf_step {rs : List Run} {k : Nat} (hk : k < rs.length) : endOf (rs.take (k + 1)) = rs[k].1 + rs[k].2 := by
  rw [List.take_succ_eq_append_getElem hk, endOf_snoc]

theorem total_step {rs : List Run} {k : Nat} (hk : k < rs.length) : total (rs.take (k + 1)) = total (rs.take k) + rs[k].2 := by
  rw [List.take_succ_eq_append_getElem hk, total_snoc]

theorem flat_step {rs : List Run} {k : Nat} (hk : k < rs.length) : flat (rs.take (k + 1)) = flat (rs.take k) ++ expand rs[k] := by
  rw [List.take_succ_eq_append_getElem hk, flat_snoc]

theorem endOf_bd {rs : List Run} (h : okRs (-1) rs = true) : -1 ≤ endOf rs ∧ endOf rs ≤ 1073741825 := by
  rcases List.eq_nil_or_concat rs with rfl | ⟨t, r, rfl⟩
  · exact ⟨Int.le_refl _, by unfold endOf; simp⟩
  · rw [List.concat_eq_append] at *
    rw [endOf_snoc]
    have h0 := okRs_mem _ _ h r (by simp)
    rw [okRs_app1, Bool.and_eq_true] at h
    have h1 := h.2
    unfold okR at h1
    simp only [Bool.and_eq_true, decide_eq_true_eq] at h1
    omega

theorem total_nonneg {rs : List Run} (h : okRs (-1) rs = true) : 0 ≤ total rs := (go_flat _ rs rfl h).2.2.2

theorem flat_total {rs : List Run} (h : okRs (-1) rs = true) : ((flat rs).length : Int) = total rs := (go_flat _ rs rfl h).2.2.1

theorem flat_take_le (rs : List Run) (k : Nat) : (flat (rs.take k)).length ≤ (flat rs).length := by
  have h : flat rs = flat (rs.take k) ++ flat (rs.drop k) := by
    rw [← List.take_append_drop k rs]
    unfold flat
    rw [List.flatMap_append]
    simp
  rw [h, List.length_append]
  omega

theorem okL_bd : ∀ (l : List Int) (p : Option Int), okL p l = true → ∀ i ∈ l, 0 ≤ i ∧ i ≤ 1073741824
  | [], _, _, _, hi => by simp at hi
  | j :: t, p, h, i, hi => by
    rw [okL, Bool.and_eq_true] at h
    have h1 := h.1
    unfold okI at h1
    simp only [Bool.and_eq_true, decide_eq_true_eq] at h1
    rcases List.mem_cons.1 hi with rfl | hi
    · exact ⟨h1.1, h1.2.1⟩
    · exact okL_bd t _ h.2 i hi

theorem len_le_flat : ∀ (rs : List Run) (e : Int), okRs e rs = true → rs.length ≤ (flat rs).length
  | [], _, _ => by simp
  | r :: t, e, h => by
    rw [okRs, Bool.and_eq_true] at h
    have h1 := h.1
    unfold okR at h1
    simp only [Bool.and_eq_true, decide_eq_true_eq] at h1
    have ih := len_le_flat t _ h.2
    unfold flat at ih ⊢
    rw [List.flatMap_cons, List.length_append, List.length_cons]
    have : (expand r).length = r.2.toNat := by unfold expand; simp
    omega

/-- What Runs gives for a list that it accepts. -/
theorem runs_facts {l : List Int} {rs : List Run} {e : Int} (hl : l.length ≤ 200) (h : runs l = (rs, e)) :
    (e = 0 ∧ indices rs = (l, 0) ∧ rs.length ≤ 4096 ∧ ∀ r ∈ rs, (-9223372036854775808 ≤ r.1 ∧ r.1 ≤ 9223372036854775807) ∧ -9223372036854775808 ≤ r.2 ∧ r.2 ≤ 9223372036854775807) ∨ e = 1 := by
  by_cases hh : l.length ≤ 4096 ∧ okL none l = true
  · left
    have h0 : (runs l).2 = 0 := by unfold runs; rw [if_pos hh]
    have h1 := indices_runs hl h0
    rw [h] at h0 h1
    have h2 : rs = (go l).1 := by
      unfold runs at h
      rw [if_pos hh] at h
      exact (Prod.mk.inj h).1.symm
    obtain ⟨q1, q2, q3, _, _⟩ := inv_go _ l rfl hh.2
    rw [← h2] at q1 q2 q3
    have := len_le_flat _ _ q2
    rw [q1] at this
    refine ⟨h0, h1, by omega, fun r hr => ?_⟩
    have := okRs_mem _ _ q2 r hr
    omega
  · right
    unfold runs at h
    rw [if_neg hh] at h
    exact (Prod.mk.inj h).2.symm

/-- What Indices gives. -/
theorem indices_facts {rs : List Run} {l : List Int} {e : Int} (h : indices rs = (l, e)) :
    (e = 0 ∧ runs l = (rs, 0) ∧ l.length ≤ 4096 ∧ ∀ i ∈ l, -9223372036854775808 ≤ i ∧ i ≤ 9223372036854775807) ∨ (l = [] ∧ (e = 1 ∨ e = 6)) := by
  by_cases h1 : okRs (-1) rs = true
  · by_cases h2 : total rs ≤ 4096
    · left
      have h0 : (indices rs).2 = 0 := by unfold indices; rw [if_pos h1, if_pos h2]
      have h3 := runs_indices h0
      rw [h] at h0 h3
      have h4 : l = flat rs := by
        unfold indices at h
        rw [if_pos h1, if_pos h2] at h
        exact (Prod.mk.inj h).1.symm
      obtain ⟨_, q2, q3, _⟩ := go_flat _ rs rfl h1
      subst h4
      refine ⟨h0, h3, by omega, fun i hi => ?_⟩
      have := okL_bd _ _ q2 i hi
      omega
    · right
      unfold indices at h
      rw [if_pos h1, if_neg h2] at h
      exact ⟨(Prod.mk.inj h).1.symm, .inr (Prod.mk.inj h).2.symm⟩
  · right
    unfold indices at h
    rw [if_neg h1] at h
    exact ⟨(Prod.mk.inj h).1.symm, .inl (Prod.mk.inj h).2.symm⟩
end Ri
