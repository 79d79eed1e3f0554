/-
  No statement is proved here: append of whatever slice reads as a list onto a row of the call's own.
-/
import Derived.Test.YteeoonoccklhmaaMem2
namespace Go.Proofs.Yteeoonoccklhmaa
open Go.RowKit
set_option maxRecDepth 100000

section
variable {P : Program} {w : World} {ops : Array Oper} {rest : List Oper} {o : Oper} {a : Act} {Q : Exit → Act → World → Prop}
theorem wpList_append_sl {α : Type} (enc : α → Value) (henc : ∀ x, (enc x).oneCell' = true) (hgd : o.guard = none) (s x : Operand) (t : TypeId)
    (ho : o.op = .call { callee := .builtin .append, args := #[s, x], argTypes := #[t, t] })
    (base : Nat) (e : TypeId) (i : TypeInfo) (z : Value) (bytes : Nat) (ht : P.underlying t = some (.slice e)) (hi : P.info? e = some i) (hz : i.zero = some z)
    (hsize : i.size = 1) (hby : i.bytes = bytes) (hzs : z.cells.size = 1)
    (v : Value) (n : Nat) (xs : List α) (hs : a.eval s = v) (hown : w.ownsRow base e 1 v n (xs.map enc))
    (u : Value) (ys : List α) (hx : a.eval x = u) (hrd : Sl enc w u ys)
    (h63 : n + ys.length ≤ maxLen) (hbytes : (n + ys.length) * bytes ≤ 140737488355328) (hbase : base ≤ w.heap.size)
    (h : ∀ v' w', w'.ownsRow base e 1 v' (n + ys.length) ((xs ++ ys).map enc) → Spares w w' v v' → Below base w w' → wpList P ops Q rest (a.put o.dst v') w') : wpList P ops Q (o :: rest) a w := by
  obtain ⟨ad, c, rfl, h1, -, h3, h4⟩ := hrd
  exact wpList_append_rd enc henc hgd s x t ho base e i z bytes ht hi hz hsize hby hzs v n xs hs hown ad c ys ys.length hx rfl h3 h1 h4 h63 hbytes hbase h

theorem step_append_sl {α : Type} {K : Act → World → Prop} {E : Prop} (enc : α → Value) (henc : ∀ x, (enc x).oneCell' = true) (hgd : o.guard = none) (s x : Operand) (t : TypeId)
    (ho : o.op = .call { callee := .builtin .append, args := #[s, x], argTypes := #[t, t] })
    (base : Nat) (e : TypeId) (i : TypeInfo) (z : Value) (bytes : Nat) (ht : P.underlying t = some (.slice e)) (hi : P.info? e = some i) (hz : i.zero = some z)
    (hsize : i.size = 1) (hby : i.bytes = bytes) (hzs : z.cells.size = 1)
    (v : Value) (n : Nat) (xs : List α) (hs : a.eval s = v) (hown : w.ownsRow base e 1 v n (xs.map enc))
    (u : Value) (ys : List α) (hx : a.eval x = u) (hrd : Sl enc w u ys)
    (h63 : n + ys.length ≤ maxLen) (hbytes : (n + ys.length) * bytes ≤ 140737488355328) (hbase : base ≤ w.heap.size)
    (h : ∀ v' w', w'.ownsRow base e 1 v' (n + ys.length) ((xs ++ ys).map enc) → Spares w w' v v' → Below base w w' → K (a.put o.dst v') w') :
    if Region.wanted o (yielded ops a.tmps) = true then Oper.wp P o a w K Q else E := by
  obtain ⟨ad, c, rfl, h1, -, h3, h4⟩ := hrd
  exact step_append_rd enc henc hgd s x t ho base e i z bytes ht hi hz hsize hby hzs v n xs hs hown ad c ys ys.length hx rfl h3 h1 h4 h63 hbytes hbase h
end

theorem own_below {w w' : World} {base n : Nat} {e : TypeId} {v : Value} {cs : List Value} (h : w.ownsRow base e 1 v n cs) (hb : Below w.heap.size w w') : w'.ownsRow base e 1 v n cs := own_keep h fun k hk => hb.block k (h.lt k hk).2
theorem own_sl {α : Type} {enc : α → Value} {w w' : World} {base n : Nat} {e : TypeId} {v : Value} {xs : List α} (h : w.ownsRow base e 1 v n (xs.map enc)) (hb : Below w.heap.size w w') : Sl enc w' v xs := Sl.ofOwn (own_below h hb)
end Go.Proofs.Yteeoonoccklhmaa
