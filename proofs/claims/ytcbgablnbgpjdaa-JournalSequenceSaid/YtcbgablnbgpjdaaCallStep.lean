/-
  No statement is proved here: a call of a Go function as a step of a region that draws its order (for go_region_law, beside step_append_rd and step_append_m).
-/
import Derived.Test.YtcbgablnbgpjdaaMem
namespace Go.Proofs.Ytcbgablnbgpjdaa
open Go.RowKit

section
variable {P : Program} {w : World} {ops : Array Oper} {o : Oper} {a : Act} {Q : Exit → Act → World → Prop}
theorem wp_call_fn {K : Act → World → Prop} (f : FuncId) (os : List Operand) (ts : Array TypeId) (ho : o.op = .call { callee := .value (.func f), args := os.toArray, argTypes := ts })
    (vals : List Value) (hv : os.map a.eval = vals) (eg : ∀ args w, (callFunc f args).run P w = .ok (.enter f args) w) {R : Ending → World → Prop} (hC : Calls P f vals.toArray w R)
    (h : ∀ e w', R e w' → ∃ v, e = .returned v ∧ K (a.put o.dst v) w') : o.wp P a w K Q := by
  have hx : (execOp a.eval o).run P w = .ok (.enter f vals.toArray) w := by
    subst hv
    unfold execOp
    simp only [ho]
    simp [go_sem, resolve, invoke, eg]
  unfold Oper.wp
  rw [hx, Oper.upon_enter]
  refine hC.mono ?_
  intro e w' hR
  obtain ⟨v, rfl, hk⟩ := h e w' hR
  exact hk

theorem step_call {K : Act → World → Prop} {E : Prop} (hgd : o.guard = none) (f : FuncId) (os : List Operand) (ts : Array TypeId) (ho : o.op = .call { callee := .value (.func f), args := os.toArray, argTypes := ts })
    (vals : List Value) (hv : os.map a.eval = vals) (eg : ∀ args w, (callFunc f args).run P w = .ok (.enter f args) w) {R : Ending → World → Prop} (hC : Calls P f vals.toArray w R)
    (h : ∀ e w', R e w' → ∃ v, e = .returned v ∧ K (a.put o.dst v) w') :
    if Region.wanted o (yielded ops a.tmps) = true then Oper.wp P o a w K Q else E := by
  have hw : Region.wanted o (yielded ops a.tmps) = true := by simp [Region.wanted, hgd]
  rw [if_pos hw]
  exact wp_call_fn f os ts ho vals hv eg hC h
end
end Go.Proofs.Ytcbgablnbgpjdaa
