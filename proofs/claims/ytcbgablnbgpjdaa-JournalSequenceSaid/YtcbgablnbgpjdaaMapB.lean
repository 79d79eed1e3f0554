/-
  No statement is proved here: a map from ints to bools that the call made: how it reads, the look-up and the store at the operation.
-/
import Derived.Maps.Own
import Derived.Maps.OwnOps
import Derived.Maps.Views
import Derived.Test.YtcbgablnbgpjdaaMem2
namespace Go.Proofs.Ytcbgablnbgpjdaa
open Go.RowKit Go.Maps

theorem elem_bool_inv {H : Type} {P : Program} {e : TypeId} (he : P.underlying e = some .bool) {v : Value} {z : DataW H × List MemPlace} (h : plainElem P e v = some z) : ∃ x, v = .bool x ∧ z = (.lit (.bool x), []) := by
  unfold plainElem at h
  rw [he] at h
  cases v <;> simp at h
  subst h
  exact ⟨_, rfl, rfl⟩

/-- Block b is a map of at most n entries; key x reads as f x. -/
def Mb (P : Program) (k e : TypeId) (w : World) (b n : Nat) (f : Int → Bool) : Prop :=
  ∃ D : DataW Nat, w.ownsMap P k (plainElem P e) b n D ∧ IsMap D ∧ ∀ x : Int, (Lit.int .i64 x).wf = true → D.atKey (.int .i64 x) (.lit (.bool false)) = .lit (.bool (f x))

section
variable {P : Program} {k e t : TypeId} {w w' : World} {b n : Nat} {f : Int → Bool}

theorem Mb.made (w : World) (P : Program) (k e : TypeId) : Mb P k e (w.alloc (.map #[] 0)) w.heap.size 0 (fun _ => false) :=
  ⟨.map [], World.ownsMap_made w P k _, isMap_empty, fun _ _ => rfl⟩
theorem Mb.lt (h : Mb P k e w b n f) : b < w.heap.size := by
  obtain ⟨D, h1, -⟩ := h
  exact h1.lt
theorem Mb.kept (h : Mb P k e w b n f) {row : Option Nat} (hg : w.grownBy w' row) (hne : some b ≠ row) : Mb P k e w' b n f := by
  obtain ⟨D, h1, h2, h3⟩ := h
  exact ⟨D, h1.kept hg hne, h2, h3⟩
theorem Mb.keep (h : Mb P k e w b n f) (hk : w'.heap[b]? = w.heap[b]?) : Mb P k e w' b n f := by
  obtain ⟨D, ⟨es, c, hb, r⟩, h2, h3⟩ := h
  exact ⟨D, ⟨es, c, hk.trans hb, r⟩, h2, h3⟩
theorem Mb.below (h : Mb P k e w b n f) {B : Nat} (hb : Below B w w') (hB : b < B) : Mb P k e w' b n f := h.keep (hb.block b hB)
theorem Mb.mono (h : Mb P k e w b n f) {n' : Nat} (hn : n ≤ n') : Mb P k e w b n' f := by
  obtain ⟨D, h1, h2, h3⟩ := h
  exact ⟨D, h1.mono hn, h2, h3⟩
theorem Mb.alloc (h : Mb P k e w b n f) (o : Obj) : Mb P k e (w.alloc o) b n f := h.keep (Below.heap_alloc w o b h.lt)
theorem Mb.as (h : Mb P k e w b n f) {g : Int → Bool} (hg : ∀ x, (Lit.int .i64 x).wf = true → f x = g x) : Mb P k e w b n g := by
  obtain ⟨D, h1, h2, h3⟩ := h
  exact ⟨D, h1, h2, fun x hx => by rw [h3 x hx, hg x hx]⟩

theorem Mb.look (h : Mb P k e w b n f) (hk : P.underlying k = some (.int .i64)) (ht : P.underlying t = some (.map k e)) (he : P.underlying e = some .bool) (hz : (zeroValue e).run P w = .ok (.bool false) w)
    {x : Int} (hx : (Lit.int .i64 x).wf = true) : (Instr.lookup t (.map (some b)) (.int .i64 x) false).run P w = .ok (.bool (f x)) w := by
  obtain ⟨D, h1, h2, h3⟩ := h
  obtain ⟨v, ps, hrun, hv⟩ := h1.lookup (int_keyed hk) ht hz (plainElem_bool he false) (keyOf_int_mk hk hx)
  obtain ⟨c, rfl, hc⟩ := elem_bool_inv he hv
  rw [h3 x hx] at hc
  simp only [Prod.mk.injEq, DataW.lit.injEq, Lit.bool.injEq] at hc
  rw [hrun, hc.1]

theorem Mb.store (h : Mb P k e w b n f) (hk : P.underlying k = some (.int .i64)) (ht : P.underlying t = some (.map k e)) (he : P.underlying e = some .bool) (hn : n < maxLen)
    {x : Int} (hx : (Lit.int .i64 x).wf = true) (c : Bool) : ∃ w', (Instr.mapUpdate t (.map (some b)) (.int .i64 x) (.bool c)).run P w = .ok () w' ∧ Mb P k e w' b (n + 1) (fun y => if y = x then c else f y) ∧ w.grownBy w' (some b) := by
  obtain ⟨D, h1, h2, h3⟩ := h
  obtain ⟨w', hrun, h4, h5⟩ := h1.update (int_keyed hk) ht hn (keyOf_int_mk hk hx) (plainElem_bool he c)
  refine ⟨w', hrun, ⟨_, h4, h2.put _ _, fun y hy => ?_⟩, h5⟩
  by_cases e : y = x
  · subst e
    rw [atKey_put_same h2 (by exact trivial)]
    simp
  · rw [atKey_put_other (by simpa using e), h3 y hy]
    simp [e]
end

section
variable {P : Program} {w : World} {ops : Array Oper} {rest : List Oper} {o : Oper} {a : Act} {Q : Exit → Act → World → Prop}
theorem wpList_lookup_mb (hg : o.guard = none) (m x : Operand) (t : TypeId) (hop : o.op = Op.lookup t m x false) (k e : TypeId) (hk : P.underlying k = some (.int .i64)) (ht : P.underlying t = some (.map k e)) (he : P.underlying e = some .bool) (hz : (zeroValue e).run P w = .ok (.bool false) w)
    (b n : Nat) (f : Int → Bool) (hm : a.eval m = .map (some b)) (h : Mb P k e w b n f) (y : Int) (hx : a.eval x = .int .i64 y) (hy : (Lit.int .i64 y).wf = true)
    (hK : wpList P ops Q rest (a.put o.dst (.bool (f y))) w) : wpList P ops Q (o :: rest) a w := by
  refine wpList_plain hg fun K' hK' => ?_
  have hrun := h.look hk ht he hz hy
  unfold Oper.wp
  simp [execOp, hop, hm, hx, hrun, Result.andThen]
  exact hK' _ _ hK

theorem wpList_update_mb (hg : o.guard = none) (m x v : Operand) (t : TypeId) (hop : o.op = Op.mapUpdate t m x v) (k e : TypeId) (hk : P.underlying k = some (.int .i64)) (ht : P.underlying t = some (.map k e)) (he : P.underlying e = some .bool)
    (b n : Nat) (f : Int → Bool) (hm : a.eval m = .map (some b)) (h : Mb P k e w b n f) (hn : n < maxLen) (y : Int) (hx : a.eval x = .int .i64 y) (hy : (Lit.int .i64 y).wf = true) (c : Bool) (hv : a.eval v = .bool c)
    (hK : ∀ w', Mb P k e w' b (n + 1) (fun z => if z = y then c else f z) → w.grownBy w' (some b) → wpList P ops Q rest (a.put o.dst undef) w') : wpList P ops Q (o :: rest) a w := by
  refine wpList_plain hg fun K' hK' => ?_
  obtain ⟨w', hrun, r1, r2⟩ := h.store hk ht he hn hy c
  unfold Oper.wp
  simp [execOp, hop, hm, hx, hv, hrun, Result.andThen]
  exact hK' _ _ (hK w' r1 r2)
end
end Go.Proofs.Ytcbgablnbgpjdaa
