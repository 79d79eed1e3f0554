/-
  No statement is proved here: four rows that the call owns side by side (two slices of writes, a row of bytes, a row of ints), and how they stay when one of them is appended to.
-/
import Derived.Test.YtcbgablnbgpjdaaJt
namespace Go.Proofs.Ytcbgablnbgpjdaa
open Go.RowKit

/-- P does not hang on the rows of V. -/
def AvR (V : List Value) (P : World → Prop) (w : World) : Prop := Av (fun b => ∃ v ∈ V, v.ownBlock = some b) P w
/-- Two rows in different blocks. -/
def Apart (v u : Value) : Prop := ∀ b, v.ownBlock = some b → u.ownBlock ≠ some b
theorem Apart.symm {v u : Value} (h : Apart v u) : Apart u v := fun b h1 h2 => h b h2 h1

section
variable {V V' : List Value} {P Q : World → Prop} {w w' : World} {v v' u : Value}
theorem AvR.below (h : AvR V P w) (hb : Below w.heap.size w w') : AvR V P w' := Av.below h hb
theorem AvR.perm (h : AvR V P w) (hp : ∀ v, v ∈ V' → v ∈ V) : AvR V' P w := Av.less h fun _ _ ⟨v, hv, e⟩ => ⟨v, hp v hv, e⟩
theorem AvR.spare (h : AvR (v :: V) P w) (hs : w.heap.size ≤ w'.heap.size) (hsp : Spares w w' v v') : AvR (v' :: V) P w' := fun W hW =>
  h W fun b hb hx => by
    have hvb : v.ownBlock ≠ some b := fun e => hx ⟨v, List.mem_cons_self, e⟩
    obtain ⟨h1, h2⟩ := hsp b hb hvb
    rw [hW b (by omega) (by
      rintro ⟨u, hu, e⟩
      rcases List.mem_cons.1 hu with rfl | hu
      · exact h2 e
      · exact hx ⟨u, List.mem_cons_of_mem _ hu, e⟩), h1]
theorem AvR.grown (h : AvR V P w) {g : Nat} (hg : w.grownBy w' (some g)) (hv : v ∈ V) (he : v.ownBlock = some g) : AvR V P w' := Av.keep h hg.size fun _ hb hx => hg.block _ hb fun e => hx ⟨v, hv, by rw [he]; exact e.symm⟩
theorem Apart.spare (h : Apart v u) (hu : ∀ b, u.ownBlock = some b → b < w.heap.size) (hsp : Spares w w' v v') : Apart v' u := fun b h1 h2 => (hsp b (hu b h2) (fun e => h b e h2)).2 h1
theorem own_spare {B s n : Nat} {e : TypeId} {cs : List Value} (ho : w.ownsRow B e s u n cs) (h : Apart v u) (hsp : Spares w w' v v') : w'.ownsRow B e s u n cs := own2_keep ho fun k hk => (hsp k (ho.lt k hk).2 fun e => h k e hk).1
theorem own_grown2 {B s n g : Nat} {e : TypeId} {cs : List Value} (ho : w.ownsRow B e s u n cs) (hg : w.grownBy w' (some g)) (hne : u.ownBlock ≠ some g) : w'.ownsRow B e s u n cs := own2_keep ho fun k hk => hg.block k (ho.lt k hk).2 fun e => hne (by rw [hk]; exact e)
end

/-- Two slices of writes, a row of bytes and a row of ints. -/
structure PL (B : Nat) (T : TypeId) (w : World) (v1 v2 v9 v0 : Value) (l1 l2 : List Jr.Wr) (xs : List UInt8) (ns : List Int) : Prop where
  ow : ∃ es1 es2 : List Ew, w.ownsRow B T 2 v1 es1.length (es1.flatMap ew) ∧ w.ownsRow B T 2 v2 es2.length (es2.flatMap ew) ∧ AvR [v1, v2, v9, v0] (fun W => WsR W es1 l1 ∧ WsR W es2 l2) w
  o9 : w.ownsRow B 5 1 v9 xs.length (xs.map eb)
  o0 : w.ownsRow B 3 1 v0 ns.length (ns.map (Value.int .i64))
  a12 : Apart v1 v2
  a19 : Apart v1 v9
  a10 : Apart v1 v0
  a29 : Apart v2 v9
  a20 : Apart v2 v0
  a90 : Apart v9 v0

section
variable {B : Nat} {T : TypeId} {w w' : World} {v1 v2 v9 v0 : Value} {l1 l2 : List Jr.Wr} {xs : List UInt8} {ns : List Int}
theorem PL.swap (h : PL B T w v1 v2 v9 v0 l1 l2 xs ns) : PL B T w v2 v1 v9 v0 l2 l1 xs ns := by
  obtain ⟨⟨es1, es2, h1, h2, h3⟩, o9, o0, a12, a19, a10, a29, a20, a90⟩ := h
  have h4 : AvR [v2, v1, v9, v0] (fun W => WsR W es1 l1 ∧ WsR W es2 l2) w := h3.perm (by simp)
  exact ⟨⟨es2, es1, h2, h1, fun W hW => ⟨(h4 W hW).2, (h4 W hW).1⟩⟩, o9, o0, a12.symm, a29, a20, a19, a10, a90⟩
theorem PL.below (h : PL B T w v1 v2 v9 v0 l1 l2 xs ns) (hb : Below w.heap.size w w') : PL B T w' v1 v2 v9 v0 l1 l2 xs ns := by
  obtain ⟨⟨es1, es2, h1, h2, h3⟩, o9, o0, a12, a19, a10, a29, a20, a90⟩ := h
  exact ⟨⟨es1, es2, own2_keep h1 fun k hk => hb.block k (h1.lt k hk).2, own2_keep h2 fun k hk => hb.block k (h2.lt k hk).2, h3.below hb⟩, own_below o9 hb, own_below o0 hb, a12, a19, a10, a29, a20, a90⟩
theorem PL.wp (h : PL B T w v1 v2 v9 v0 l1 l2 xs ns) : Wp w v1 l1 := by
  obtain ⟨⟨es1, es2, h1, h2, h3⟩, -⟩ := h
  exact ⟨es1, Sm.ofOwn ew_len h1 rfl, (Av.here h3).1⟩
theorem PL.form (h : PL B T w v1 v2 v9 v0 l1 l2 xs ns) : ∃ a c, v1 = .slice a l1.length c := by
  obtain ⟨a, c, e, -⟩ := h.wp.open
  exact ⟨a, c, e⟩
theorem PL.lt (h : PL B T w v1 v2 v9 v0 l1 l2 xs ns) : ∀ v ∈ [v1, v2, v9, v0], ∀ b, v.ownBlock = some b → B ≤ b ∧ b < w.heap.size := by
  obtain ⟨⟨es1, es2, h1, h2, h3⟩, o9, o0, -⟩ := h
  intro v hv b hb
  simp only [List.mem_cons, List.not_mem_nil, or_false] at hv
  rcases hv with rfl | rfl | rfl | rfl
  · exact h1.lt b hb
  · exact h2.lt b hb
  · exact o9.lt b hb
  · exact o0.lt b hb
/-- What a call made after all these rows lies in none of them. -/
theorem PL.fresh (h : PL B T w v1 v2 v9 v0 l1 l2 xs ns) {W : World} {base n : Nat} {e : TypeId} {u : Value} {bs : List UInt8} (ho : W.ownsRow base e 1 u n (bs.map eb)) (hb : w.heap.size ≤ base) : AvR [v1, v2, v9, v0] (fun W => Sl eb W u bs) W := fun W' hW =>
  Sl.ofOwn (own_keep ho fun k hk => hW k (ho.lt k hk).2 fun ⟨v, hv, e⟩ => by
    have h1 := (ho.lt k hk).1
    have h2 := (h.lt v hv k e).2
    omega)
end

section
variable {P : Program} {w : World} {ops : Array Oper} {rest : List Oper} {o : Oper} {a : Act} {Q : Exit → Act → World → Prop}
variable {B : Nat} {T : TypeId} {v1 v2 v9 v0 : Value} {l1 l2 : List Jr.Wr} {xs : List UInt8} {ns : List Int}
theorem wp_append_pl {K : Act → World → Prop} (s x : Operand) (t : TypeId) (ho : o.op = .call { callee := .builtin .append, args := #[s, x], argTypes := #[t, t] })
    (i : TypeInfo) (z : Value) (ht : P.underlying t = some (.slice T)) (hi : P.info? T = some i) (hz : i.zero = some z) (hsize : i.size = 2) (hby : i.bytes = 32) (hzs : z.cells.size = 2)
    (hs : a.eval s = v1) (h : PL B T w v1 v2 v9 v0 l1 l2 xs ns) (hm : l1.length ≤ 100000)
    (g : Nat) (n : Int) (u : Value) (bs : List UInt8) (hx : a.eval x = .slice (some ⟨g, 0, none⟩) 1 1) (hg : w.heap[g]? = some (.cells #[.int .i64 n, u] T (0, 0))) (hu : AvR [v1, v2, v9, v0] (fun W => Sl eb W u bs) w) (hB : B ≤ w.heap.size)
    (hK : ∀ v' w', PL B T w' v' v2 v9 v0 (l1 ++ [(n, bs)]) l2 xs ns → Spares w w' v1 v' → Below B w w' → K (a.put o.dst v') w') : o.wp P a w K Q := by
  obtain ⟨⟨es1, es2, h1, h2, h3⟩, o9, o0, a12, a19, a10, a29, a20, a90⟩ := h
  have hlen := (Av.here h3).1.1
  obtain ⟨ad, c, hsl, -⟩ := Av.here hu
  have hrm : Rm 2 ew w (some ⟨g, 0, none⟩) [(n, ad, bs.length, c)] := fun j hj => by
    simp at hj
    subst hj
    refine ⟨g, 0, rfl, (Array.getElem?_eq_some_iff.1 hg).1, fun q hq => ?_⟩
    rw [cell_of_row _ _ _ _ _ _ hg]
    subst hsl
    simp [ew]
  refine wp_append_m ew ew_len (by decide) ew_one s x t ho B T i z 32 ht hi hz hsize hby hzs v1 es1.length es1 hs h1 (some ⟨g, 0, none⟩) 1 [(n, ad, bs.length, c)] 1 hx rfl (by simp) (by omega) hrm (by unfold maxLen; omega) (by omega) hB ?_
  intro v' w' k1 k2 k3
  refine hK v' w' ⟨⟨es1 ++ [(n, ad, bs.length, c)], es2, by rw [List.length_append]; exact k1, own_spare h2 a12 k2, ?_⟩, own_spare o9 a19 k2, own_spare o0 a10 k2, a12.spare (fun b hb => (h2.lt b hb).2) k2, a19.spare (fun b hb => (o9.lt b hb).2) k2, a10.spare (fun b hb => (o0.lt b hb).2) k2, a29, a20, a90⟩ k2 k3
  have hav : AvR [v1, v2, v9, v0] (fun W => WsR W (es1 ++ [(n, ad, bs.length, c)]) (l1 ++ [(n, bs)]) ∧ WsR W es2 l2) w := fun W hW => ⟨(h3 W hW).1.snoc ⟨rfl, by have := hu W hW; rw [hsl] at this; exact this⟩, (h3 W hW).2⟩
  exact hav.spare k3.size k2

theorem wpList_append_pl (hgd : o.guard = none) (s x : Operand) (t : TypeId) (ho : o.op = .call { callee := .builtin .append, args := #[s, x], argTypes := #[t, t] })
    (i : TypeInfo) (z : Value) (ht : P.underlying t = some (.slice T)) (hi : P.info? T = some i) (hz : i.zero = some z) (hsize : i.size = 2) (hby : i.bytes = 32) (hzs : z.cells.size = 2)
    (hs : a.eval s = v1) (h : PL B T w v1 v2 v9 v0 l1 l2 xs ns) (hm : l1.length ≤ 100000)
    (g : Nat) (n : Int) (u : Value) (bs : List UInt8) (hx : a.eval x = .slice (some ⟨g, 0, none⟩) 1 1) (hg : w.heap[g]? = some (.cells #[.int .i64 n, u] T (0, 0))) (hu : AvR [v1, v2, v9, v0] (fun W => Sl eb W u bs) w) (hB : B ≤ w.heap.size)
    (hK : ∀ v' w', PL B T w' v' v2 v9 v0 (l1 ++ [(n, bs)]) l2 xs ns → Spares w w' v1 v' → Below B w w' → wpList P ops Q rest (a.put o.dst v') w') : wpList P ops Q (o :: rest) a w :=
  wpList_plain hgd fun _ hK' => wp_append_pl s x t ho i z ht hi hz hsize hby hzs hs h hm g n u bs hx hg hu hB fun v' w' h2 h3 h4 => hK' _ _ (hK v' w' h2 h3 h4)

theorem step_append_pl {K : Act → World → Prop} {E : Prop} (hgd : o.guard = none) (s x : Operand) (t : TypeId) (ho : o.op = .call { callee := .builtin .append, args := #[s, x], argTypes := #[t, t] })
    (i : TypeInfo) (z : Value) (ht : P.underlying t = some (.slice T)) (hi : P.info? T = some i) (hz : i.zero = some z) (hsize : i.size = 2) (hby : i.bytes = 32) (hzs : z.cells.size = 2)
    (hs : a.eval s = v1) (h : PL B T w v1 v2 v9 v0 l1 l2 xs ns) (hm : l1.length ≤ 100000)
    (g : Nat) (n : Int) (u : Value) (bs : List UInt8) (hx : a.eval x = .slice (some ⟨g, 0, none⟩) 1 1) (hg : w.heap[g]? = some (.cells #[.int .i64 n, u] T (0, 0))) (hu : AvR [v1, v2, v9, v0] (fun W => Sl eb W u bs) w) (hB : B ≤ w.heap.size)
    (hK : ∀ v' w', PL B T w' v' v2 v9 v0 (l1 ++ [(n, bs)]) l2 xs ns → Spares w w' v1 v' → Below B w w' → K (a.put o.dst v') w') :
    if Region.wanted o (yielded ops a.tmps) = true then Oper.wp P o a w K Q else E := by
  have hw : Region.wanted o (yielded ops a.tmps) = true := by simp [Region.wanted, hgd]
  rw [if_pos hw]
  exact wp_append_pl s x t ho i z ht hi hz hsize hby hzs hs h hm g n u bs hx hg hu hB hK

theorem wpList_append_pl0 (hgd : o.guard = none) (s x : Operand) (t : TypeId) (ho : o.op = .call { callee := .builtin .append, args := #[s, x], argTypes := #[t, t] })
    (i : TypeInfo) (z : Value) (ht : P.underlying t = some (.slice 3)) (hi : P.info? 3 = some i) (hz : i.zero = some z) (hsize : i.size = 1) (hby : i.bytes = 8) (hzs : z.cells.size = 1)
    (hs : a.eval s = v0) (h : PL B T w v1 v2 v9 v0 l1 l2 xs ns) (hm : ns.length ≤ 100000)
    (g : Nat) (n : Int) (hx : a.eval x = .slice (some ⟨g, 0, none⟩) 1 1) (hg : w.heap[g]? = some (.cells #[.int .i64 n] 3 (0, 0))) (hB : B ≤ w.heap.size)
    (hK : ∀ v' w', PL B T w' v1 v2 v9 v' l1 l2 xs (ns ++ [n]) → Spares w w' v0 v' → Below B w w' → wpList P ops Q rest (a.put o.dst v') w') : wpList P ops Q (o :: rest) a w := by
  obtain ⟨⟨es1, es2, h1, h2, h3⟩, o9, o0, a12, a19, a10, a29, a20, a90⟩ := h
  have hrd : Rd (Value.int .i64) w (some ⟨g, 0, none⟩) [n] := Rd.block hg
  refine wpList_append_rd (Value.int .i64) (fun _ => rfl) hgd s x t ho B 3 i z 8 ht hi hz hsize hby hzs v0 ns.length ns hs o0 (some ⟨g, 0, none⟩) 1 [n] 1 hx rfl (by simp) (by omega) hrd (by unfold maxLen; omega) (by omega) hB ?_
  intro v' w' k1 k2 k3
  refine hK v' w' ⟨⟨es1, es2, own_spare h1 a10.symm k2, own_spare h2 a20.symm k2, ?_⟩, own_spare o9 a90.symm k2, by rw [List.length_append]; exact k1, a12, a19, (a10.symm.spare (fun b hb => (h1.lt b hb).2) k2).symm, a29, (a20.symm.spare (fun b hb => (h2.lt b hb).2) k2).symm, (a90.symm.spare (fun b hb => (o9.lt b hb).2) k2).symm⟩ k2 k3
  have h4 : AvR [v0, v1, v2, v9] (fun W => WsR W es1 l1 ∧ WsR W es2 l2) w := h3.perm (by simp)
  exact (h4.spare k3.size k2).perm (by simp)
end

/-- The row of bytes is written. -/
theorem PL.write {B g n cap : Nat} {T : TypeId} {w w' : World} {v1 v2 v0 : Value} {l1 l2 : List Jr.Wr} {xs ys : List UInt8} {ns : List Int} (h : PL B T w v1 v2 (.slice (some ⟨g, 0, none⟩) n cap) v0 l1 l2 xs ns) (hl : ys.length = xs.length)
    (ho : w'.ownsRow B 5 1 (.slice (some ⟨g, 0, none⟩) n cap) xs.length (ys.map eb)) (hg : w.grownBy w' (some g)) : PL B T w' v1 v2 (.slice (some ⟨g, 0, none⟩) n cap) v0 l1 l2 ys ns := by
  obtain ⟨⟨es1, es2, h1, h2, h3⟩, o9, o0, a12, a19, a10, a29, a20, a90⟩ := h
  have hb : (Value.slice (some ⟨g, 0, none⟩) n cap).ownBlock = some g := rfl
  exact ⟨⟨es1, es2, own_grown2 h1 hg (fun e => a19 g e hb), own_grown2 h2 hg (fun e => a29 g e hb), h3.grown hg (v := .slice (some ⟨g, 0, none⟩) n cap) (by simp) hb⟩, by rw [hl]; exact ho, own_grown2 o0 hg (a90 g hb), a12, a19, a10, a29, a20, a90⟩
theorem PL.start {B : Nat} {T : TypeId} {w : World} {v9 : Value} {xs : List UInt8} (h : w.ownsRow B 5 1 v9 xs.length (xs.map eb)) : PL B T w (.slice none 0 0) (.slice none 0 0) v9 (.slice none 0 0) [] [] xs [] := by
  have hn : ∀ u, Apart (.slice none 0 0) u := fun u b hb => by cases hb
  exact ⟨⟨[], [], World.ownsRow_nil _ _ _ _, World.ownsRow_nil _ _ _ _, fun W _ => ⟨WsR.nil, WsR.nil⟩⟩, h, World.ownsRow_nil _ _ _ _, hn _, hn _, hn _, hn _, hn _, (hn _).symm⟩
end Go.Proofs.Ytcbgablnbgpjdaa
