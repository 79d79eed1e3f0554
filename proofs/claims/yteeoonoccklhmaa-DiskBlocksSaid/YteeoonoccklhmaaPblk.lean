/-
  Plain: what a Write and the Reads behind it answer. No program is named here.
-/
import Derived.Test.YteeoonoccklhmaaPlain
namespace Dk
theorem run_ans (n : Nat) : ∀ {bs : List (List UInt8)} {ct co cp l lt la : Int} {cd ld : List UInt8} (_ : valid (bs, (true, (ct, co, cp, cd), l, (lt, la, ld))) = true) (_ : l ≤ n) (_ : ct ≠ lt),
    run n (bs, (true, (ct, co, cp, cd), l, (lt, la, ld))) = (((answer bs (ct, co, cp, cd)).2, (false, zcm, 0, (answer bs (ct, co, cp, cd)).1)), (answer bs (ct, co, cp, cd)).1, true) ∧
      valid ((answer bs (ct, co, cp, cd)).2, (false, zcm, 0, (answer bs (ct, co, cp, cd)).1)) = true := by
  induction n with
  | zero =>
    intro bs ct co cp l lt la cd ld hv hl
    have := (validC_open.1 (valid_iff.1 hv).2.1).2.2.2.1
    omega
  | succ n ih =>
    intro bs ct co cp l lt la cd ld hv hl hne
    obtain ⟨h0, hc, h1⟩ := valid_iff.1 hv
    obtain ⟨hlt, hp, hle, hl1, hl3⟩ := validC_open.1 hc
    by_cases hg : 1 < l
    · have ht : tick (bs, (true, (ct, co, cp, cd), l, (lt, la, ld))) = ((bs, (true, (ct, co, cp, cd), l - 1, (lt, la, ld))), []) := by unfold tick; simp [hv, hg]
      rw [run_none ht]
      exact ih (valid_iff.2 ⟨h0, validC_open.2 ⟨hlt, hp, hle, by omega, by omega⟩, h1⟩) (by omega) hne
    · have ht : tick (bs, (true, (ct, co, cp, cd), l, (lt, la, ld))) = (((answer bs (ct, co, cp, cd)).2, (false, zcm, 0, (answer bs (ct, co, cp, cd)).1)), [(answer bs (ct, co, cp, cd)).1]) := by unfold tick; simp [hv, hg, hne]
      have hf := answer_full (c := (ct, co, cp, cd)) h0 h1
      have htag := answer_tag (bs := bs) (c := (ct, co, cp, cd))
      refine ⟨run_some ht, valid_iff.2 ⟨hf.1, ?_, hf.2⟩⟩
      generalize answer bs (ct, co, cp, cd) = r at *
      obtain ⟨⟨t, a, d⟩, b2⟩ := r
      simp only at htag
      subst htag
      exact validC_shut.2 ⟨.inr hp, rfl, rfl⟩

/-- A Write's answer. -/
theorem answer_write (bs : List (List UInt8)) (t p : Int) (xs : List UInt8) : ∃ an bs', answer bs (t, 1, p, xs) = ((t, an, []), bs') ∧ ((an < 0 ∧ bs' = bs) ∨ (an = 0 ∧ xs.length = 128 ∧ blk p = true ∧ bs' = bs.set p.toNat xs)) := by
  unfold answer
  by_cases h1 : xs.length = 128
  · rw [if_neg (by simp [h1])]
    cases hb : blk p with
    | false => exact ⟨-2, bs, by simp, .inl ⟨by decide, rfl⟩⟩
    | true => exact ⟨0, _, by simp, .inr ⟨rfl, h1, rfl, rfl⟩⟩
  · exact ⟨-1, bs, by simp [h1], .inl ⟨by decide, rfl⟩⟩

theorem dur_le (c : Cm) : 1 ≤ dur c ∧ dur c ≤ 3 := by
  unfold dur
  split
  · rename_i hb
    unfold blk at hb
    simp only [Bool.and_eq_true, decide_eq_true_eq] at hb
    rw [Int.tmod_eq_emod_of_nonneg hb.1]
    omega
  · omega

/-- A Write opens the channel with the command, where its tag is a new one. -/
theorem give_new {bs : List (List UInt8)} {c0 : Cm} {l0 lt la t q p : Int} {ld xs : List UInt8} {s1 : St} (h : give (bs, (false, c0, l0, (lt, la, ld))) (t, q, p, xs) = (s1, 0)) (hne : t ≠ lt) :
    ∃ l1, s1 = (bs, (true, (t, q, p, xs), l1, (lt, la, ld))) ∧ valid s1 = true ∧ l1 ≤ 3 ∧ prop t = true := by
  unfold give at h
  split at h
  · injection h with _ h; omega
  · rename_i hv
    have hv' : valid (bs, (false, c0, l0, (lt, la, ld))) = true := by simpa using hv
    obtain ⟨h0, hc, h1⟩ := valid_iff.1 hv'
    split at h
    · injection h with _ h; omega
    · rename_i hp
      have hp' : prop t = true := by simpa using hp
      split at h
      · injection h with _ h; omega
      · rename_i hlt
        simp only [top, Bool.false_eq_true, if_false] at h hlt
        obtain ⟨hz, -, -⟩ := validC_shut.1 hc
        rw [if_neg hne] at h
        injection h with h _
        subst h
        have hd := dur_le (t, q, p, xs)
        exact ⟨_, rfl, valid_iff.2 ⟨h0, validC_open.2 ⟨hz, hp', by omega, hd.1, hd.2⟩, h1⟩, hd.2, hp'⟩

/-- A Read of a block, given behind an answer: what it answers. -/
theorem read_back {bs : List (List UInt8)} {t an t2 q : Int} {d : List UInt8} (hv : valid (bs, (false, zcm, 0, (t, an, d))) = true) (hp2 : prop t2 = true) (ht : t < t2) (hq : blk q = true) :
    ∃ l1, give (bs, (false, (0, 0, 0, []), 0, (t, an, d))) (t2, 0, q, []) = ((bs, (true, (t2, 0, q, []), l1, (t, an, d))), 0) ∧ valid (bs, (true, (t2, 0, q, []), l1, (t, an, d))) = true ∧ l1 ≤ 3 ∧
      run 3 (bs, (true, (t2, 0, q, []), l1, (t, an, d))) = ((bs, (false, (0, 0, 0, []), 0, (t2, 0, bs.getD q.toNat []))), (t2, 0, bs.getD q.toNat []), true) ∧ valid (bs, (false, zcm, 0, (t2, 0, bs.getD q.toNat []))) = true := by
  have hg : give (bs, (false, (0, 0, 0, []), 0, (t, an, d))) (t2, 0, q, []) = ((bs, (true, (t2, 0, q, []), dur (t2, 0, q, []), (t, an, d))), 0) := by
    have hv' : valid (bs, (false, ((0 : Int), (0 : Int), (0 : Int), ([] : List UInt8)), (0 : Int), (t, an, d))) = true := hv
    unfold give
    rw [hv', hp2]
    have h1 : ¬ t2 < t := by omega
    have h2 : ¬ t2 = t := by omega
    simp [top, h1, h2]
  obtain ⟨l1, e, hv1, hl, -⟩ := give_new hg (by omega)
  simp only [Prod.mk.injEq, true_and, and_true] at e
  have hr := run_ans 3 hv1 (by rw [e]; exact hl) (by omega)
  have ha : answer bs (t2, 0, q, []) = ((t2, 0, bs.getD q.toNat []), bs) := by unfold answer; simp [hq]
  rw [ha] at hr
  exact ⟨_, hg, hv1, by rw [e]; exact hl, hr.1, hr.2⟩
theorem prop_add {t : Int} (h : prop t = true) (k : Nat) : prop (t + 2 * k) = true := by
  unfold prop at h ⊢
  simp only [Bool.and_eq_true, decide_eq_true_eq] at h ⊢
  obtain ⟨h1, h2⟩ := h
  refine ⟨by omega, ?_⟩
  rw [Int.tmod_eq_emod_of_nonneg (by omega)] at h2 ⊢
  omega
end Dk
