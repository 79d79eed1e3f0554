/-
  No statement is proved here: one write more in a slice of writes that the call owns.
-/
import Derived.Test.YtcbgablnbgpjdaaJm
namespace Go.Proofs.Ytcbgablnbgpjdaa
open Go.RowKit

section
variable {P : Program} {w : World} {ops : Array Oper} {rest : List Oper} {o : Oper} {a : Act} {Q : Exit → Act → World → Prop}

/-- The bytes lie in a block that is not in L and is not v's. -/
theorem own_av {w : World} {base : Nat} {e : TypeId} {u v : Value} {n : Nat} {xs : List UInt8} {L : List Nat} (h : w.ownsRow base e 1 u n (xs.map eb)) (hL : ∀ b ∈ L, b < base) (hv : ∀ b, v.ownBlock = some b → b < base) : Av (Bx L v) (fun W => Sl eb W u xs) w := fun W' hW =>
  Sl.ofOwn (own_keep h fun k hk => hW k (h.lt k hk).2 fun hx => by
    have h1 := (h.lt k hk).1
    rcases hx with hx | hx
    · have := hL k hx; omega
    · have := hv k hx; omega)

theorem wp_append_wo {K : Act → World → Prop} (s x : Operand) (t : TypeId) (ho : o.op = .call { callee := .builtin .append, args := #[s, x], argTypes := #[t, t] })
    (B : Nat) (T : TypeId) (i : TypeInfo) (z : Value) (ht : P.underlying t = some (.slice T)) (hi : P.info? T = some i) (hz : i.zero = some z) (hsize : i.size = 2) (hby : i.bytes = 32) (hzs : z.cells.size = 2)
    (L : List Nat) (v : Value) (ls : List Jr.Wr) (hs : a.eval s = v) (h : Wo B T L w v ls) (hm : ls.length ≤ 100000)
    (g : Nat) (n : Int) (u : Value) (bs : List UInt8) (hx : a.eval x = .slice (some ⟨g, 0, none⟩) 1 1) (hg : w.heap[g]? = some (.cells #[.int .i64 n, u] T (0, 0))) (hu : Av (Bx L v) (fun W => Sl eb W u bs) w) (hB : B ≤ w.heap.size)
    (hK : ∀ v' w', Wo B T L w' v' (ls ++ [(n, bs)]) → Spares w w' v v' → Below B w w' → K (a.put o.dst v') w') : o.wp P a w K Q := by
  obtain ⟨es, h1, h2⟩ := h
  have hlen := h2.here.1
  obtain ⟨ad, c, hsl, -⟩ := hu.here
  have hrm : Rm 2 ew w (some ⟨g, 0, none⟩) [(n, ad, bs.length, c)] := fun j hj => by
    simp at hj
    subst hj
    refine ⟨g, 0, rfl, (Array.getElem?_eq_some_iff.1 hg).1, fun q hq => ?_⟩
    rw [cell_of_row _ _ _ _ _ _ hg]
    subst hsl
    simp [ew]
  refine wp_append_m ew ew_len (by decide) ew_one s x t ho B T i z 32 ht hi hz hsize hby hzs v es.length es hs h1 (some ⟨g, 0, none⟩) 1 [(n, ad, bs.length, c)] 1 hx rfl (by simp) (by omega) hrm (by unfold maxLen; omega) (by omega) hB ?_
  intro v' w' h3 h4 h5
  refine hK v' w' ⟨_, by rw [List.length_append]; exact h3, ?_⟩ h4 h5
  have hav : Av (Bx L v) (fun W => WsR W (es ++ [(n, ad, bs.length, c)]) (ls ++ [(n, bs)])) w := (h2.and hu).mono fun W hW => hW.1.snoc ⟨rfl, by have := hW.2; rw [hsl] at this; exact this⟩
  exact hav.spare h5.size h4

theorem wpList_append_wo (hgd : o.guard = none) (s x : Operand) (t : TypeId) (ho : o.op = .call { callee := .builtin .append, args := #[s, x], argTypes := #[t, t] })
    (B : Nat) (T : TypeId) (i : TypeInfo) (z : Value) (ht : P.underlying t = some (.slice T)) (hi : P.info? T = some i) (hz : i.zero = some z) (hsize : i.size = 2) (hby : i.bytes = 32) (hzs : z.cells.size = 2)
    (L : List Nat) (v : Value) (ls : List Jr.Wr) (hs : a.eval s = v) (h : Wo B T L w v ls) (hm : ls.length ≤ 100000)
    (g : Nat) (n : Int) (u : Value) (bs : List UInt8) (hx : a.eval x = .slice (some ⟨g, 0, none⟩) 1 1) (hg : w.heap[g]? = some (.cells #[.int .i64 n, u] T (0, 0))) (hu : Av (Bx L v) (fun W => Sl eb W u bs) w) (hB : B ≤ w.heap.size)
    (hK : ∀ v' w', Wo B T L w' v' (ls ++ [(n, bs)]) → Spares w w' v v' → Below B w w' → wpList P ops Q rest (a.put o.dst v') w') : wpList P ops Q (o :: rest) a w :=
  wpList_plain hgd fun _ hK' => wp_append_wo s x t ho B T i z ht hi hz hsize hby hzs L v ls hs h hm g n u bs hx hg hu hB fun v' w' h2 h3 h4 => hK' _ _ (hK v' w' h2 h3 h4)

theorem step_append_wo {K : Act → World → Prop} {E : Prop} (hgd : o.guard = none) (s x : Operand) (t : TypeId) (ho : o.op = .call { callee := .builtin .append, args := #[s, x], argTypes := #[t, t] })
    (B : Nat) (T : TypeId) (i : TypeInfo) (z : Value) (ht : P.underlying t = some (.slice T)) (hi : P.info? T = some i) (hz : i.zero = some z) (hsize : i.size = 2) (hby : i.bytes = 32) (hzs : z.cells.size = 2)
    (L : List Nat) (v : Value) (ls : List Jr.Wr) (hs : a.eval s = v) (h : Wo B T L w v ls) (hm : ls.length ≤ 100000)
    (g : Nat) (n : Int) (u : Value) (bs : List UInt8) (hx : a.eval x = .slice (some ⟨g, 0, none⟩) 1 1) (hg : w.heap[g]? = some (.cells #[.int .i64 n, u] T (0, 0))) (hu : Av (Bx L v) (fun W => Sl eb W u bs) w) (hB : B ≤ w.heap.size)
    (hK : ∀ v' w', Wo B T L w' v' (ls ++ [(n, bs)]) → Spares w w' v v' → Below B w w' → K (a.put o.dst v') w') :
    if Region.wanted o (yielded ops a.tmps) = true then Oper.wp P o a w K Q else E := by
  have hw : Region.wanted o (yielded ops a.tmps) = true := by simp [Region.wanted, hgd]
  rw [if_pos hw]
  exact wp_append_wo s x t ho B T i z ht hi hz hsize hby hzs L v ls hs h hm g n u bs hx hg hu hB hK
end

theorem own_base {B B' s n : Nat} {e : TypeId} {w : World} {v : Value} {cs : List Value} (h : w.ownsRow B e s v n cs) (hb : B' ≤ B) : w.ownsRow B' e s v n cs := by
  refine ⟨h.1, h.2.elim .inl ?_⟩
  rintro ⟨g, cap, cur, hv, hg, r⟩
  exact .inr ⟨g, cap, cur, hv, by omega, r⟩
theorem Wo.base {B B' : Nat} {T : TypeId} {L : List Nat} {w : World} {v : Value} {ls : List Jr.Wr} (h : Wo B T L w v ls) (hb : B' ≤ B) : Wo B' T L w v ls := by
  obtain ⟨es, h1, h2⟩ := h
  exact ⟨es, own_base h1 hb, h2⟩
theorem Wo.lt {B : Nat} {T : TypeId} {L : List Nat} {w : World} {v : Value} {ls : List Jr.Wr} (h : Wo B T L w v ls) : ∀ b, v.ownBlock = some b → B ≤ b ∧ b < w.heap.size := by
  obtain ⟨es, h1, -⟩ := h
  exact fun b hb => h1.lt b hb
end Go.Proofs.Ytcbgablnbgpjdaa
