/-
  No statement is proved here: a slice of writes is appended whole; the box of a described disk with another log.
-/
import Derived.Test.YtcbgablnbgpjdaaLread
namespace Go.Proofs.Ytcbgablnbgpjdaa
open Go.RowKit

section
variable {P : Program} {w : World} {ops : Array Oper} {rest : List Oper} {o : Oper} {a : Act} {Q : Exit → Act → World → Prop}
/-- `append(v, u...)`: v is the call's own, from B on; u was there before. -/
theorem wpList_append_ws (hgd : o.guard = none) (s x : Operand) (t : TypeId) (ho : o.op = .call { callee := .builtin .append, args := #[s, x], argTypes := #[t, t] })
    (B : Nat) (T : TypeId) (i : TypeInfo) (z : Value) (ht : P.underlying t = some (.slice T)) (hi : P.info? T = some i) (hz : i.zero = some z) (hsize : i.size = 2) (hby : i.bytes = 32) (hzs : z.cells.size = 2)
    (v : Value) (ls : List Jr.Wr) (hs : a.eval s = v) (h : Wo B T [] w v ls) (u : Value) (ms : List Jr.Wr) (hx : a.eval x = u) (W0 : World) (hu : Wp W0 u ms) (hW : Below W0.heap.size W0 w) (hBW : W0.heap.size ≤ B) (hm : ls.length + ms.length ≤ 100000) (hB : B ≤ w.heap.size)
    (hK : ∀ v' w', Wo B T [] w' v' (ls ++ ms) → Spares w w' v v' → Below B w w' → wpList P ops Q rest (a.put o.dst v') w') : wpList P ops Q (o :: rest) a w := by
  refine wpList_plain hgd fun K hK' => ?_
  obtain ⟨es, h1, h2⟩ := h
  have hlen := h2.here.1
  obtain ⟨es2, ⟨ad, c, rfl, k1, k2, k3, k4⟩, k5⟩ := hu
  have hlen2 := k5.1
  refine wp_append_m ew ew_len (by decide) ew_one s x t ho B T i z 32 ht hi hz hsize hby hzs v es.length es hs h1 ad c es2 es2.length hx rfl k3 k1 (k4.below hW (Nat.le_refl _)) (by unfold maxLen; omega) (by omega) hB ?_
  intro v' w' g1 g2 g3
  refine hK' _ _ (hK v' w' ⟨es ++ es2, by rw [List.length_append]; exact g1, ?_⟩ g2 g3)
  have hav : Av (Bx [] v) (fun W => WsR W (es ++ es2) (ls ++ ms)) w := fun W hWW => by
    have e1 := h2 W hWW
    have e2 : WsR W es2 ms := k5.keep fun b hb => (hWW b (by have := hW.size; omega) (fun hx => hx.elim (fun h => by cases h) (fun h => by have := (h1.lt b h).1; omega))).trans (hW.block b hb)
    refine ⟨by rw [List.length_append, List.length_append, e1.1, e2.1], fun i hi hi' => ?_⟩
    by_cases q : i < es.length
    · rw [List.getElem_append_left q, List.getElem_append_left (by rw [← e1.1]; exact q)]
      exact e1.2 i q (by rw [← e1.1]; exact q)
    · have q2 : es.length ≤ i := by omega
      rw [List.getElem_append_right q2, List.getElem_append_right (by rw [← e1.1]; exact q2)]
      have q3 : i - es.length < es2.length := by rw [List.length_append] at hi; omega
      have := e2.2 (i - es.length) q3 (by omega)
      simpa [e1.1] using this
  exact hav.spare g3.size g2
end

/-- The bytes lie in a block that was there before v's row. -/
theorem own_hi {w : World} {base n : Nat} {e : TypeId} {u : Value} {cs : List Value} (h : w.ownsRow base e 1 u n cs) : ∀ k, u.ownBlock = some k → k < w.heap.size := fun k hk => (h.lt k hk).2
theorem own_av8 {w : World} {base B n : Nat} {e : TypeId} {u v : Value} {xs : List UInt8} (h : w.ownsRow base e 1 u n (xs.map eb)) (hv : ∀ b, v.ownBlock = some b → B ≤ b) (hu : ∀ k, u.ownBlock = some k → k < B) : Av (Bx [] v) (fun W => Sl eb W u xs) w := fun W' hW =>
  Sl.ofOwn (own_keep h fun k hk => hW k (h.lt k hk).2 fun hx => by
    rcases hx with hx | hx
    · cases hx
    · have := hv k hx; have := hu k hk; omega)
theorem wo_new {w : World} {T : TypeId} : Wo w.heap.size T [] (w.alloc (.cells #[] T (0, 0))) (.slice (some ⟨w.heap.size, 0, none⟩) 0 0) [] := by
  refine ⟨[], ?_, fun W _ => WsR.nil⟩
  exact World.ownsRow_made w #[] 0 (Nat.le_refl _) (Nat.zero_le _) (by simp)
theorem Wp.takeN {w : World} {v : Value} {n : Nat} {a : Option Addr} {cap : Nat} {ls : List Jr.Wr} (h : Wp w (.slice a n cap) ls) (k : Nat) (hk : k ≤ n) : Wp w (.slice a k cap) (ls.take k) := by
  obtain ⟨a2, c2, e, -⟩ := h.open
  injection e with e1 e2 e3
  subst e1 e2 e3
  exact h.take k hk
end Go.Proofs.Ytcbgablnbgpjdaa
