/-
  The copy of a string into a known block; the header as it is built, step by step (plain).
-/
import Derived.Test.YtcbgablnbgpjdaaJe
import Derived.Test.YtcbgablnbgpjdaaJf
import Derived.Lib.BufferWrite
namespace Go.Proofs.Ytcbgablnbgpjdaa
open Go.RowKit

section
variable {P : Program} {w : World} {ops : Array Oper} {rest : List Oper} {o : Oper} {a : Act} {Q : Exit → Act → World → Prop}
theorem run_copy_str (dT sT ty elem : TypeId) (hu : P.underlying dT = some (.slice elem)) (hsz : (P.info? elem).map (·.size) = some 1) (g off dLen dCap : Nat) (s : ByteArray) (bs : List UInt8) (hs : s.data.toList = bs)
    (cur : List Value) (t : TypeId) (hg : Bk w g t cur) (hle : bs.length ≤ dLen) (hfit : off + bs.length ≤ cur.length) :
    ∃ w', (Builtin.copy_ #[dT, sT] ty #[.slice (some ⟨g, off, none⟩) dLen dCap, .string s]).run P w = .ok (goInt bs.length) w' ∧ Bk w' g t (splice cur off (bs.map eb)) ∧ w.grownBy w' (some g) := by
  have hsl : s.size = bs.length := by rw [Lib.size_eq, hs]
  have hrun := Lib.run_copy_row_string (P := P) w dT sT ty elem g off dLen dCap s cur.toArray t hu hsz hg (by omega) (by simpa [hsl] using hfit)
  rw [hsl] at hrun
  refine ⟨_, hrun, ?_, ⟨rfl, rfl, rfl, by simp [World.setRow], fun k _ hk => setRow_other w g k _ (fun e => hk (by rw [e]))⟩⟩
  unfold Bk
  rw [setRow_heap w g cur.toArray _ t _ hg, hs]
  simp only [splice, List.length_map, List.append_assoc]
  rfl

theorem wpList_copy_str (hgd : o.guard = none) (d x : Operand) (dT sT : TypeId) (ho : o.op = .call { callee := .builtin .copy, args := #[d, x], argTypes := #[dT, sT] }) (elem : TypeId) (hu : P.underlying dT = some (.slice elem)) (hsz : (P.info? elem).map (·.size) = some 1)
    (g off dLen dCap : Nat) (s : ByteArray) (bs : List UInt8) (hs : s.data.toList = bs) (hd : a.eval d = .slice (some ⟨g, off, none⟩) dLen dCap) (hx : a.eval x = .string s)
    (cur : List Value) (t : TypeId) (hg : Bk w g t cur) (hle : bs.length ≤ dLen) (hfit : off + bs.length ≤ cur.length)
    (h : ∀ w', Bk w' g t (splice cur off (bs.map eb)) → w.grownBy w' (some g) → wpList P ops Q rest (a.put o.dst (goInt bs.length)) w') : wpList P ops Q (o :: rest) a w := by
  refine wpList_plain hgd fun K hK => ?_
  obtain ⟨w', hrun, h1, h2⟩ := run_copy_str (P := P) (w := w) dT sT o.type elem hu hsz g off dLen dCap s bs hs cur t hg hle hfit
  unfold Oper.wp
  simp only [execOp, ho, resolve, invoke, builtin, Sem.run_bind, Sem.run_pure, Result.andThen_ok, List.map_toArray, List.map_cons, List.map_nil, hd, hx, hrun]
  exact hK _ _ (h w' h1 h2)
end
end Go.Proofs.Ytcbgablnbgpjdaa
namespace Jr
/-- The eleven entries behind k rounds. -/
def ents (bl : List Int) (k : Nat) : List UInt8 := (List.range 11).map fun i => if h : i < bl.length ∧ i < k then ib (bl[i]'h.1) else 0
theorem ents_len (bl : List Int) (k : Nat) : (ents bl k).length = 11 := by simp [ents]
theorem ents_zero (bl : List Int) : ents bl 0 = List.replicate 11 0 := by
  unfold ents
  apply List.ext_getElem (by simp)
  intro i h1 h2
  simp only [List.getElem_map, List.getElem_replicate]
  rw [dif_neg (by omega)]
theorem ents_step (bl : List Int) (k : Nat) (hk : k < bl.length) : (ents bl k).set k (ib bl[k]) = ents bl (k + 1) := by
  apply List.ext_getElem (by simp [ents])
  intro i h1 h2
  rw [List.getElem_set]
  by_cases e : k = i
  · subst e
    rw [if_pos rfl]
    simp [ents, hk]
  · rw [if_neg e]
    simp only [ents, List.getElem_map, List.getElem_range]
    by_cases h : i < bl.length ∧ i < k
    · rw [dif_pos h, dif_pos ⟨h.1, by omega⟩]
    · rw [dif_neg h, dif_neg (by omega)]
theorem ents_all (bl : List Int) : ents bl bl.length = (List.range 11).map fun i => if h : i < bl.length then ib bl[i] else 0 := by
  unfold ents
  apply List.map_congr_left
  intro i _
  by_cases h : i < bl.length
  · rw [dif_pos ⟨h, h⟩, dif_pos h]
  · rw [dif_neg (by omega), dif_neg h]
/-- A header that is being built: its lead, the entries and the rest. -/
def part (c n : UInt8) (e r : List UInt8) : List UInt8 := [74, 82, 78, c, n] ++ e ++ r
theorem part_set (c n : UInt8) (e r : List UInt8) (k : Nat) (x : UInt8) (hk : k < e.length) : (part c n e r).set (5 + k) x = part c n (e.set k x) r := by
  unfold part
  rw [List.append_assoc, List.append_assoc, List.set_append_right _ _ (by simp), List.set_append_left _ _ (by simpa using hk)]
  simp
end Jr
