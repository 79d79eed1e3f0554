/-
  The walk of slices.Delete of one element of a slice that the call owns.
-/
import Derived.Test.YtolfkgbcjfkbnaaLibw
import Derived.Deep.RegionLaw
import Derived.Lib.SliceRun
import Derived.Deep.MidRow
namespace Go.Proofs.Ytolfkgbcjfkbnaa
open Go.RowKit

theorem Below.cellsSet {B b : Nat} {a : World} (hB : B ≤ b) : ∀ (vs : List Value) (o : Nat) (w : World), Below B a w → Below B a (w.setCells b o vs)
  | [], _, _, h => h
  | v :: r, o, w, h => by
    rw [World.setCells]
    exact Below.cellsSet hB r (o + 1) _ (h.setCell (p := ⟨b, o, none⟩) hB v)

/-- `clear(s)` at the operation. -/
theorem wpList_clear {P : Program} {w w' : World} {ops : Array Oper} {rest : List Oper} {o : Oper} {a : Act} {Q : Exit → Act → World → Prop} (hgd : o.guard = none) (x : Operand) (t : TypeId)
    (ho : o.op = .call { callee := .builtin .clear, args := #[x], argTypes := #[t] }) (v : Value) (hx : a.eval x = v) (hrun : ∀ ty, (Builtin.clear_ #[t] ty #[v]).run P w = .ok (.tuple #[]) w')
    (h : wpList P ops Q rest (a.put o.dst (.tuple #[])) w') : wpList P ops Q (o :: rest) a w := by
  refine wpList_plain hgd fun K hK => ?_
  unfold Oper.wp
  simp [execOp, ho, resolve, invoke, builtin, hx, hrun, Result.andThen]
  exact hK _ _ h

theorem zero3 : ∀ w, (zeroValue 3).run Try.prog w = .ok (.int .i64 0) w := fun _ => by kernel_rfl

set_option maxHeartbeats 800000 in
theorem delete_w (g k m cap : Nat) (xs : List Int) (w : World) (hlen : xs.length = k + m + 1) (hn : k + m + 1 ≤ 1000) (hcap : k + m + 1 ≤ cap) (hcm : cap ≤ 9223372036854775807) (hg : g < w.heap.size)
    (hc : ∀ j (hj : j < xs.length), w.cell? ⟨g, j, none⟩ = some (.int .i64 xs[j])) (hf : ∀ j, w.frozen? ⟨g, j, none⟩ = false) :
    Calls Try.prog 30 #[.slice (some ⟨g, 0, none⟩) (k + m + 1) cap, .int .i64 k, .int .i64 (k + 1)] w fun e w' => ∃ v, e = .returned v ∧ Sl (Value.int .i64) w' v (xs.take k ++ xs.drop (k + 1)) ∧ Below g w w' := by
  obtain ⟨i0, hi, hz0, hz1, hz2⟩ := info_parts Try.info3
  have HC := Lib.hid hc
  have HF := Lib.hid hf
  clear hc hf
  have f1 : (0 : Int) ≤ (k : Int) := by omega
  have f2 : (k : Int) ≤ (k : Int) + 1 := by omega
  have f3 : (k : Int) + 1 ≤ (k : Int) + (m : Int) + 1 := by omega
  have f4 : (k : Int) + (m : Int) + 1 ≤ (cap : Int) := by omega
  have f5 : ((k : Int) == (k : Int) + 1) = false := by rw [beq_eq_false_iff_ne]; omega
  have f6 : (0 : Int) ≤ (k : Int) + 1 := by omega
  have f7 : ((k : Int) + 1).toNat = k + 1 := by omega
  have f8 : (k : Int) ≤ (cap : Int) := by omega
  obtain ⟨adx, hA⟩ : ∃ adx, (if cap = k + 1 then some (⟨g, 0, none⟩ : Addr) else some ⟨g, k + 1, none⟩) = some adx := by split <;> exact ⟨_, rfl⟩
  have hnews : ∀ j u, ((xs.drop (k + 1)).map (Value.int .i64))[j]? = some u → w.drew.cell? (adx.add j) = some u := by
    intro j u hj
    have hj' : j < m := by have := (List.getElem?_eq_some_iff.1 hj).1; simp at this; omega
    rw [if_neg (by omega)] at hA
    simp at hA
    subst hA
    have ha : (⟨g, k + 1, none⟩ : Addr).add j = ⟨g, k + 1 + j, none⟩ := by by_cases h0 : j = 0 <;> simp [Addr.add, h0]
    rw [ha]
    show w.cell? _ = _
    rw [HC.out (k + 1 + j) (by omega)]
    simp [List.getElem?_drop] at hj
    obtain ⟨x, hx, rfl⟩ := hj
    rw [List.getElem?_eq_getElem (by omega)] at hx
    simp at hx
    rw [hx]
  have HNW := Lib.hid hnews
  clear hnews
  go_enter Try.func30, Try.ntmps30
  go_wp2_with fail
  go_region_held3 (fun _ => True) (trivial) ((refine step_append_room (by rfl) _ _ 26 (by rfl) 3 i0 1 Try.underlying26 hi hz1 g 0 k cap (by rfl) adx m (cap - (k + 1)) ((xs.drop (k + 1)).map (Value.int .i64)) (by rfl) (by simp; omega) HNW.out (by intro u hu; obtain ⟨y, _, rfl⟩ := List.mem_map.1 hu; rfl) (by omega) (by intro j hj; simp at hj; exact ⟨by show (w.cell? _).isSome = true; rw [show 0 + k * 1 + j = k + j by omega, HC.out (k + j) (by omega)]; rfl, HF.out _⟩) ?_))
  have hdl : ((xs.drop (k + 1)).map (Value.int .i64)).length = m := by simp; omega
  have hsome : ∀ j, j < k + m + 1 → ((w.drew.setCells g k (List.drop (k + 1) (List.map (Value.int .i64) xs))).cell? ⟨g, j, none⟩).isSome = true := fun j hj =>
    World.isSome_setCells g _ _ _ _ (by show (w.cell? _).isSome = true; rw [HC.out j (by omega)]; rfl)
  have hfz : ∀ j, (w.drew.setCells g k (List.drop (k + 1) (List.map (Value.int .i64) xs))).frozen? ⟨g, j, none⟩ = false := fun j => (World.frozen?_setCells g _ _ _ _).trans (HF.out j)
  have hcl : ∀ ty, (Builtin.clear_ #[26] ty #[Value.slice (some ⟨g, k + m, none⟩) 1 (cap - (k + m))]).run Try.prog (w.drew.setCells g k (List.drop (k + 1) (List.map (Value.int .i64) xs))) = .ok (.tuple #[]) ((w.drew.setCells g k (List.drop (k + 1) (List.map (Value.int .i64) xs))).setCells g (k + m) (List.replicate 1 (.int .i64 0))) := fun ty =>
    Lib.run_clear_slice (P := Try.prog) _ 26 3 ty (.int .i64 0) Try.underlying26 zero3 rfl rfl g (k + m) 1 (cap - (k + m)) (by omega) (fun j hj => hsome _ (by omega)) (fun j _ => hfz _)
  clear hsome hfz hdl HNW
  go_wp2
  go_ret
  refine ⟨_, rfl, ⟨some ⟨g, 0, none⟩, cap, ?_, by simp; omega, by unfold maxLen; omega, by simp, fun i hi => ⟨g, 0, rfl, ?_, ?_⟩⟩, ?_⟩
  · have : (xs.take k ++ xs.drop (k + 1)).length = k + m := by simp; omega
    rw [this]
    rfl
  · exact Nat.lt_of_lt_of_le hg (Below.cellsSet (B := g) (Nat.le_refl _) _ _ _ (Below.cellsSet (Nat.le_refl _) _ _ _ (Below.refl g w).drew)).size
  · have hi' : i < k + m := by simp at hi; omega
    rw [World.cell?_setCells_out _ _ _ _ _ (fun _ _ => Or.inl (by simp; omega)), Nat.zero_add]
    by_cases hik : i < k
    · rw [World.cell?_setCells_out _ _ _ _ _ (fun _ _ => Or.inl (by simpa using hik))]
      show w.cell? _ = _
      rw [HC.out i (by omega), List.getElem_append_left (by simp; omega), List.getElem_take]
    · obtain ⟨j, rfl⟩ : ∃ j, i = k + j := ⟨i - k, by omega⟩
      have hj : j < (List.drop (k + 1) (List.map (Value.int .i64) xs)).length := by simp; omega
      rw [World.cell?_setCells_in g (List.drop (k + 1) (List.map (Value.int .i64) xs)) k w.drew (fun j hj => by show (w.cell? _).isSome = true; rw [HC.out (k + j) (by simp at hj; omega)]; rfl) j hj]
      rw [List.getElem_append_right (by simp; omega)]
      simp
      congr 2
      omega
  · exact Below.cellsSet (B := g) (Nat.le_refl _) _ _ _ (Below.cellsSet (Nat.le_refl _) _ _ _ (Below.refl g w).drew)
end Go.Proofs.Ytolfkgbcjfkbnaa
