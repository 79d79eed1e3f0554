/-
  Plain: what the statements of layer 11 say of the disk. No program is named here.
-/
import Derived.Test.YteeoonoccklhmaaRun
namespace Dk

theorem valid_iff {bs : List (List UInt8)} {c : Ch} : valid (bs, c) = true ↔ bs.length = 160 ∧ validC c = true ∧ all128 bs = true := by
  unfold valid
  simp only [Bool.and_eq_true, decide_eq_true_eq]
theorem validC_open {ct co cp l lt la : Int} {cd ld : List UInt8} : validC (true, (ct, co, cp, cd), l, (lt, la, ld)) = true ↔ (lt = 0 ∨ prop lt = true) ∧ prop ct = true ∧ lt ≤ ct ∧ 1 ≤ l ∧ l ≤ 3 := by
  unfold validC
  simp only [Bool.and_eq_true, Bool.not_eq_true', decide_eq_false_iff_not, if_true]
  by_cases h1 : lt = 0
  · simp [h1]
  · cases h2 : prop lt <;> simp [h1]
theorem validC_shut {c : Cm} {l lt la : Int} {ld : List UInt8} : validC (false, c, l, (lt, la, ld)) = true ↔ (lt = 0 ∨ prop lt = true) ∧ c = zcm ∧ l = 0 := by
  unfold validC
  simp only [Bool.and_eq_true, Bool.not_eq_true', decide_eq_false_iff_not, Bool.false_eq_true, if_false]
  by_cases h1 : lt = 0
  · simp [h1]
  · cases h2 : prop lt <;> simp [h1]

theorem all_set {bs : List (List UInt8)} (h : all128 bs = true) (i : Nat) {x : List UInt8} (hx : x.length = 128) : all128 (bs.set i x) = true := by
  unfold all128 at h ⊢
  rw [List.all_eq_true] at h ⊢
  intro y hy
  rcases List.mem_or_eq_of_mem_set hy with h3 | h3
  · exact h y h3
  · subst h3; simpa using hx
theorem answer_tag {bs : List (List UInt8)} {c : Cm} : (answer bs c).1.1 = c.1 := by
  unfold answer
  split
  · rfl
  · split
    · rfl
    · split <;> rfl
theorem answer_full {bs : List (List UInt8)} {c : Cm} (h0 : bs.length = 160) (h : all128 bs = true) : (answer bs c).2.length = 160 ∧ all128 (answer bs c).2 = true := by
  unfold answer
  split
  · exact ⟨h0, h⟩
  · rename_i hc
    split
    · exact ⟨h0, h⟩
    · split
      · exact ⟨h0, h⟩
      · refine ⟨by simp [h0], all_set h _ ?_⟩
        rename_i hq
        apply Classical.byContradiction
        intro hx
        apply hc
        by_cases h1 : c.2.1 = 1
        · exact .inr (.inr ⟨h1, hx⟩)
        · exact .inl ⟨hq, h1⟩

theorem run_shut {bs : List (List UInt8)} {c : Cm} {l : Int} {a : An} (hv : valid (bs, (false, c, l, a)) = true) (n : Nat) : run n (bs, (false, c, l, a)) = ((bs, (false, c, l, a)), zan, false) := by
  have ht : tick (bs, (false, c, l, a)) = ((bs, (false, c, l, a)), []) := by unfold tick; simp [hv]
  induction n with
  | zero => rfl
  | succ n ih => rw [run_none ht, ih]

theorem run_sized : ∀ (n : Nat) {s : St}, Sized s → Sized (run n s).1
  | 0, _, h => h
  | n + 1, s, h => by
    have ht := (tick_sized h).1
    unfold run
    split
    · exact ht
    · exact run_sized n ht

/-- An open command is answered within its time, by an answer with its tag; then the channel is shut. -/
theorem run_open (n : Nat) : ∀ {bs : List (List UInt8)} {ct co cp l lt la : Int} {cd ld : List UInt8} (_ : valid (bs, (true, (ct, co, cp, cd), l, (lt, la, ld))) = true) (_ : l ≤ n),
    ∃ bs2 a, run n (bs, (true, (ct, co, cp, cd), l, (lt, la, ld))) = ((bs2, (false, zcm, 0, a)), a, true) ∧ a.1 = ct ∧ valid (bs2, (false, zcm, 0, a)) = true := by
  induction n with
  | zero =>
    intro bs ct co cp l lt la cd ld hv hl
    have := (validC_open.1 (valid_iff.1 hv).2.1).2.2.2.1
    omega
  | succ n ih =>
    intro bs ct co cp l lt la cd ld hv hl
    obtain ⟨h0, hc, h1⟩ := valid_iff.1 hv
    obtain ⟨hlt, hp, hle, hl1, hl3⟩ := validC_open.1 hc
    by_cases hg : 1 < l
    · have ht : tick (bs, (true, (ct, co, cp, cd), l, (lt, la, ld))) = ((bs, (true, (ct, co, cp, cd), l - 1, (lt, la, ld))), []) := by unfold tick; simp [hv, hg]
      rw [run_none ht]
      exact ih (valid_iff.2 ⟨h0, validC_open.2 ⟨hlt, hp, hle, by omega, by omega⟩, h1⟩) (by omega)
    · by_cases he : ct = lt
      · subst he
        have ht : tick (bs, (true, (ct, co, cp, cd), l, (ct, la, ld))) = ((bs, (false, zcm, 0, (ct, la, ld))), [(ct, la, ld)]) := by unfold tick; simp [hv, hg]
        exact ⟨bs, (ct, la, ld), run_some ht, rfl, valid_iff.2 ⟨h0, validC_shut.2 ⟨.inr hp, rfl, rfl⟩, h1⟩⟩
      · have ht : tick (bs, (true, (ct, co, cp, cd), l, (lt, la, ld))) = (((answer bs (ct, co, cp, cd)).2, (false, zcm, 0, (answer bs (ct, co, cp, cd)).1)), [(answer bs (ct, co, cp, cd)).1]) := by unfold tick; simp [hv, hg, he]
        have hf := answer_full (c := (ct, co, cp, cd)) h0 h1
        have htag := answer_tag (bs := bs) (c := (ct, co, cp, cd))
        refine ⟨_, _, run_some ht, htag, valid_iff.2 ⟨hf.1, ?_, hf.2⟩⟩
        generalize answer bs (ct, co, cp, cd) = r at *
        obtain ⟨⟨t, a, d⟩, b2⟩ := r
        simp only at htag
        subst htag
        exact validC_shut.2 ⟨.inr hp, rfl, rfl⟩

/-- What Do gives where it gives no error. -/
theorem give_ok {bs : List (List UInt8)} {o : Bool} {ct co cp l lt la t q p : Int} {cd ld xs : List UInt8} {s1 : St} (h : give (bs, (o, (ct, co, cp, cd), l, (lt, la, ld))) (t, q, p, xs) = (s1, 0)) :
    ∃ co1 cp1 l1 cd1, s1 = (bs, (true, (t, co1, cp1, cd1), l1, (lt, la, ld))) ∧ valid s1 = true ∧ l1 ≤ 3 := by
  unfold give at h
  split at h
  · injection h with _ h; omega
  · rename_i hv
    have hv' : valid (bs, (o, (ct, co, cp, cd), l, (lt, la, ld))) = true := by simpa using hv
    obtain ⟨h0, hc, h1⟩ := valid_iff.1 hv'
    split at h
    · injection h with _ h; omega
    · rename_i hp
      have hp' : prop t = true := by simpa using hp
      split at h
      · injection h with _ h; omega
      · rename_i hlt
        cases o with
        | true =>
          simp only [top, if_true] at h hlt
          split at h
          · injection h with _ h; omega
          · injection h with h _
            subst h
            obtain ⟨_, _, _, _, hl3⟩ := validC_open.1 hc
            obtain rfl : t = ct := by omega
            exact ⟨co, cp, l, cd, rfl, hv', hl3⟩
        | false =>
          simp only [top, Bool.false_eq_true, if_false] at h hlt
          obtain ⟨hz, -, -⟩ := validC_shut.1 hc
          split at h
          · rename_i he
            injection h with h _
            subst h
            exact ⟨0, 0, 1, [], rfl, valid_iff.2 ⟨h0, validC_open.2 ⟨hz, hp', by omega, by omega, by omega⟩, h1⟩, by omega⟩
          · injection h with h _
            subst h
            have hd : 1 ≤ dur (t, q, p, xs) ∧ dur (t, q, p, xs) ≤ 3 := by
              unfold dur
              split
              · rename_i hb
                unfold blk at hb
                simp at hb
                have := Int.tmod_eq_emod_of_nonneg (a := p) (b := 3) hb.1
                simp only
                rw [this]
                omega
              · omega
            exact ⟨q, p, _, xs, rfl, valid_iff.2 ⟨h0, validC_open.2 ⟨hz, hp', by omega, hd.1, hd.2⟩, h1⟩, hd.2⟩
theorem give_len {s : St} {c : Cm} (h1 : s.2.2.1.2.2.2.length ≤ 300) (h2 : c.2.2.2.length ≤ 300) : (give s c).1.2.2.1.2.2.2.length ≤ 300 := by
  unfold give
  repeat' split
  all_goals first
    | exact h1
    | exact h2
    | simp [zst, zch, zcm]
theorem give_bad {s : St} {c : Cm} (h : (give s c).2 ≠ 0) : (give s c).1 = zst := by
  unfold give at h ⊢
  split
  · rfl
  · rename_i h1
    rw [if_neg h1] at h
    split
    · rfl
    · rename_i h2
      rw [if_neg h2] at h
      split
      · rfl
      · rename_i h3
        rw [if_neg h3] at h
        split
        · rename_i h4
          rw [if_pos h4] at h
          split
          · rfl
          · rename_i h5
            rw [if_neg h5] at h
            exact absurd rfl h
        · rename_i h4
          rw [if_neg h4] at h
          split at h <;> exact absurd rfl h
end Dk
