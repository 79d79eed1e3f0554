/-
  No statement is proved here: `clear` of a part of a block that is known whole.
-/
import Derived.Test.YtkgheilaleekdaaMem2
import Derived.Lib.SliceRun
namespace Go.Proofs.Ytkgheilaleekdaa
open Go.RowKit
set_option maxRecDepth 100000

theorem splice_cons (L : List Value) (off : Nat) (v : Value) (r : List Value) (h : off + (r.length + 1) ≤ L.length) : splice (L.set off v) (off + 1) r = splice L off (v :: r) := by
  apply List.ext_getElem?
  intro j
  rw [splice_get _ _ _ (by rw [List.length_set]; omega), splice_get _ _ _ (by simp; omega), List.getElem?_set]
  have el : (v :: r).length = r.length + 1 := rfl
  by_cases h1 : j < off
  · rw [if_pos (show j < off + 1 by omega), if_neg (show ¬ off = j by omega), if_pos h1]
  · by_cases h2 : j = off
    · subst h2
      rw [if_pos (show j < j + 1 by omega), if_pos rfl, if_pos (show j < L.length by omega), if_neg (show ¬ j < j by omega), if_pos (show j < j + (v :: r).length by rw [el]; omega)]
      simp
    · by_cases h3 : j < off + 1 + r.length
      · rw [if_neg (show ¬ j < off + 1 by omega), if_pos h3, if_neg h1, if_pos (show j < off + (v :: r).length by rw [el]; omega), show j - off = (j - (off + 1)) + 1 by omega, List.getElem?_cons_succ]
      · rw [if_neg (show ¬ j < off + 1 by omega), if_neg h3, if_neg (show ¬ off = j by omega), if_neg h1, if_neg (show ¬ j < off + (v :: r).length by rw [el]; omega)]

theorem Bk.setCells {g : Nat} {t : TypeId} : ∀ (vs : List Value) (off : Nat) (w : World) (cur : List Value), Bk w g t cur → off + vs.length ≤ cur.length → Bk (w.setCells g off vs) g t (splice cur off vs) ∧ w.grownBy (w.setCells g off vs) (some g)
  | [], off, w, cur, h, _ => by
    refine ⟨?_, World.grownBy.refl w _⟩
    simpa [splice, World.setCells] using h
  | v :: r, off, w, cur, h, hl => by
    rw [World.setCells]
    obtain ⟨h1, h2⟩ := Bk.setCells r (off + 1) _ _ (h.set off v) (by rw [List.length_set]; simp at hl; omega)
    rw [splice_cons _ _ _ _ (by simp at hl; omega)] at h1
    exact ⟨h1, grown_trans grown_set h2⟩

section
variable {P : Program} {w : World} {ops : Array Oper} {rest : List Oper} {o : Oper} {a : Act} {Q : Exit → Act → World → Prop}

theorem run_clear_zero {P : Program} (w : World) (t e ty : TypeId) (ht : P.underlying t = some (.slice e)) (dp : Option Addr) (c : Nat) :
    (Builtin.clear_ #[t] ty #[.slice dp 0 c]).run P w = .ok (.tuple #[]) w := by
  cases dp <;> simp [Builtin.clear_, run_underlying ht]

theorem run_clear_bk (t e ty : TypeId) (z : Value) (ht : P.underlying t = some (.slice e)) (hv : ∀ w, (zeroValue e).run P w = .ok z w) (hz : z.cells = #[z]) (h1 : z.oneCell' = true)
    (dp : Option Addr) (g off n c : Nat) (hdp : 0 < n → dp = some ⟨g, off, none⟩) (cur : List Value) (tc : TypeId) (hg : Bk w g tc cur) (hfit : off + n ≤ cur.length) :
    ∃ w', (Builtin.clear_ #[t] ty #[.slice dp n c]).run P w = .ok (.tuple #[]) w' ∧ Bk w' g tc (splice cur off (List.replicate n z)) ∧ w.grownBy w' (some g) := by
  by_cases h0 : n = 0
  · subst h0
    exact ⟨w, run_clear_zero w t e ty ht dp c, by simpa [splice] using hg, World.grownBy.refl w _⟩
  · rw [hdp (by omega)]
    obtain ⟨q1, q2⟩ := Bk.setCells (List.replicate n z) off w cur hg (by simpa using hfit)
    exact ⟨_, Lib.run_clear_slice (P := P) w t e ty z ht hv hz h1 g off n c (by omega) (fun j hj => by rw [hg.cell, List.getElem?_eq_getElem (by omega)]; rfl) (fun j _ => hg.frozen _), q1, q2⟩

theorem wp_clear_bk {K : Act → World → Prop} (x : Operand) (t : TypeId) (ho : o.op = .call { callee := .builtin .clear, args := #[x], argTypes := #[t] }) (e : TypeId) (z : Value) (ht : P.underlying t = some (.slice e)) (hv : ∀ w, (zeroValue e).run P w = .ok z w) (hz : z.cells = #[z]) (h1 : z.oneCell' = true)
    (dp : Option Addr) (g off n c : Nat) (hx : a.eval x = .slice dp n c) (hdp : 0 < n → dp = some ⟨g, off, none⟩) (cur : List Value) (tc : TypeId) (hg : Bk w g tc cur) (hfit : off + n ≤ cur.length)
    (h : ∀ w', Bk w' g tc (splice cur off (List.replicate n z)) → w.grownBy w' (some g) → K (a.put o.dst (.tuple #[])) w') : o.wp P a w K Q := by
  obtain ⟨w', hrun, q1, q2⟩ := run_clear_bk (P := P) (w := w) t e o.type z ht hv hz h1 dp g off n c hdp cur tc hg hfit
  unfold Oper.wp
  simp only [execOp, ho, resolve, invoke, builtin, Sem.run_bind, Sem.run_pure, Result.andThen_ok, List.map_toArray, List.map_cons, List.map_nil, hx, hrun]
  exact h w' q1 q2

theorem wpList_clear_bk (hgd : o.guard = none) (x : Operand) (t : TypeId) (ho : o.op = .call { callee := .builtin .clear, args := #[x], argTypes := #[t] }) (e : TypeId) (z : Value) (ht : P.underlying t = some (.slice e)) (hv : ∀ w, (zeroValue e).run P w = .ok z w) (hz : z.cells = #[z]) (h1 : z.oneCell' = true)
    (dp : Option Addr) (g off n c : Nat) (hx : a.eval x = .slice dp n c) (hdp : 0 < n → dp = some ⟨g, off, none⟩) (cur : List Value) (tc : TypeId) (hg : Bk w g tc cur) (hfit : off + n ≤ cur.length)
    (h : ∀ w', Bk w' g tc (splice cur off (List.replicate n z)) → w.grownBy w' (some g) → wpList P ops Q rest (a.put o.dst (.tuple #[])) w') : wpList P ops Q (o :: rest) a w :=
  wpList_plain hgd fun _ hK => wp_clear_bk x t ho e z ht hv hz h1 dp g off n c hx hdp cur tc hg hfit fun w' q1 q2 => hK _ _ (h w' q1 q2)

theorem step_clear_bk {K : Act → World → Prop} {E : Prop} (hgd : o.guard = none) (x : Operand) (t : TypeId) (ho : o.op = .call { callee := .builtin .clear, args := #[x], argTypes := #[t] }) (e : TypeId) (z : Value) (ht : P.underlying t = some (.slice e)) (hv : ∀ w, (zeroValue e).run P w = .ok z w) (hz : z.cells = #[z]) (h1 : z.oneCell' = true)
    (dp : Option Addr) (g off n c : Nat) (hx : a.eval x = .slice dp n c) (hdp : 0 < n → dp = some ⟨g, off, none⟩) (cur : List Value) (tc : TypeId) (hg : Bk w g tc cur) (hfit : off + n ≤ cur.length)
    (h : ∀ w', Bk w' g tc (splice cur off (List.replicate n z)) → w.grownBy w' (some g) → K (a.put o.dst (.tuple #[])) w') :
    if Region.wanted o (yielded ops a.tmps) = true then Oper.wp P o a w K Q else E := by
  have hw : Region.wanted o (yielded ops a.tmps) = true := by simp [Region.wanted, hgd]
  rw [if_pos hw]
  exact wp_clear_bk x t ho e z ht hv hz h1 dp g off n c hx hdp cur tc hg hfit h
end
end Go.Proofs.Ytkgheilaleekdaa
