/-
  No statement is proved here: a slice of elements of several cells laid open.
-/
import Derived.Test.YtcbgablnbgpjdaaOpen0
import Derived.Test.YtcbgablnbgpjdaaMulti
namespace Go.Proofs.Ytcbgablnbgpjdaa
open Go.RowKit Go.ChangeShapes Go.WideShapes

theorem Arg.multi {α : Type} {s : Nat} {enc : α → List Value} {R : α → Prop} {w : World} {t e : TypeId} {cs : List Value} (ht : Try.prog.underlying t = some (.slice e)) (hc : Try.prog.cellsOf e = s) (hs0 : 0 < s)
    (hR : ∀ cs', Arg w e cs' → ∃ x, cs' = enc x ∧ R x) (h : Arg w t cs) : ∃ v xs, cs = [v] ∧ Sm s enc w v xs ∧ ∀ x ∈ xs, R x := by
  rcases h.slice ht with h0 | ⟨a, len, cap, hcs, hl, hm, hel⟩
  · exact ⟨_, [], h0, Sm.nil _, by simp⟩
  · rw [hc] at hel
    have hex : ∀ n, n ≤ len → ∃ xs : List α, xs.length = n ∧ (∀ x ∈ xs, R x) ∧ ∀ i (h : i < xs.length) j, j < s → w.cell? ((a.add (i * s)).add j) = (enc xs[i])[j]? ∧ ∃ v, w.cell? ((a.add (i * s)).add j) = some v := by
      intro n
      induction n with
      | zero => intro _; exact ⟨[], rfl, by simp, fun i h => absurd h (by simp)⟩
      | succ n ih =>
        intro hn
        obtain ⟨xs, e1, e2, e3⟩ := ih (by omega)
        obtain ⟨cs', g1, g2, g3⟩ := hel n (by omega)
        obtain ⟨x, rfl, hr⟩ := hR cs' g3
        refine ⟨xs ++ [x], by simp [e1], ?_, fun i hi j hj => ?_⟩
        · intro y hy
          rcases List.mem_append.1 hy with hy | hy
          · exact e2 y hy
          · simp at hy; subst hy; exact hr
        · by_cases hi' : i < xs.length
          · rw [List.getElem_append_left hi']; exact e3 i hi' j hj
          · have : i = n := by simp at hi; omega
            subst this
            have hx : (xs ++ [x])[i] = x := by simp [← e1]
            rw [hx]
            exact ⟨g2 j hj, _, (g2 j hj).trans (List.getElem?_eq_getElem (by omega))⟩
    obtain ⟨xs, e1, e2, e3⟩ := hex len (Nat.le_refl _)
    refine ⟨_, xs, hcs, ?_, e2⟩
    by_cases h0 : 0 < len
    · obtain ⟨_, v0, hv0⟩ := e3 0 (by omega) 0 hs0
      have ha0 : (a.add (0 * s)).add 0 = a := by simp [Addr.add]
      rw [ha0] at hv0
      have hs := addr_none hv0
      have hb := World.block_lt_of_cell? w _ hv0
      obtain ⟨b, off, spot⟩ := a
      simp only at hs hb
      subst hs
      refine ⟨some ⟨b, off, none⟩, cap, by rw [e1], by omega, hm, by simp, fun i hi => ⟨b, off, rfl, hb, fun j hj => ?_⟩⟩
      have h3 := (e3 i hi j hj).1
      have ha : ((⟨b, off, none⟩ : Addr).add (i * s)).add j = ⟨b, off + i * s + j, none⟩ := by
        by_cases h0 : i * s = 0 <;> by_cases h1 : j = 0 <;> simp [Addr.add, h0, h1]
      rw [ha] at h3
      exact h3
    · have : len = 0 := by omega
      subst this
      obtain rfl : xs = [] := List.eq_nil_of_length_eq_zero e1
      exact ⟨some a, cap, rfl, by simp, hm, by simp, Rm.nil _ _⟩
end Go.Proofs.Ytcbgablnbgpjdaa
