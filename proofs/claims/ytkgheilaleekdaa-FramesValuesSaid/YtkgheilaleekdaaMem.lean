/-
  No statement is proved here: words for slices in memory (a slice value reads as a list of one-cell elements), and the laws by which they are kept, cut and appended to.
-/
import Derived.WalkKit
import Derived.WalkSpells
import Derived.WalkLawsBesides
import Derived.Laws.AppendOwnNone
import Derived.Lib.Hide
import Derived.Shelf.Abstract
import Derived.Deep.RegionHeld3
import Derived.Deep.AppendLies
import Derived.Deep.DrawnRows
import Derived.BigQuiet
import Derived.Deep.QuietTactic
import Derived.Deep.RegionWith
import Derived.Maps.AppendAt
import Derived.Handy
namespace Go.Proofs.Ytkgheilaleekdaa
open Go.RowKit
set_option maxRecDepth 100000

/-- The address `a` leads to a row whose cells from its start on hold `xs`. Nothing is said where `xs` is empty. -/
def Rd {α : Type} (enc : α → Value) (w : World) (a : Option Addr) (xs : List α) : Prop :=
  ∀ i (h : i < xs.length), ∃ b off, a = some ⟨b, off, none⟩ ∧ b < w.heap.size ∧ w.cell? ⟨b, off + i, none⟩ = some (enc xs[i])

/-- The address of a slice that is cut at `l` (its capacity is `m`), as the model gives it. -/
def cutA (a : Option Addr) (l m s : Nat) : Option Addr := if m = l then a else a.map (·.add (l * s))

theorem Rd.nil {α : Type} (enc : α → Value) (w : World) (a : Option Addr) : Rd enc w a [] := fun i h => absurd h (by simp)

theorem Rd.below {α : Type} {enc : α → Value} {w w' : World} {a : Option Addr} {xs : List α} (h : Rd enc w a xs) {B : Nat} (hb : Below B w w') (hB : w.heap.size ≤ B) : Rd enc w' a xs := by
  intro i hi
  obtain ⟨b, off, ha, hlt, hc⟩ := h i hi
  exact ⟨b, off, ha, Nat.lt_of_lt_of_le hlt hb.size, by rw [hb.cell (p := ⟨b, off + i, none⟩) (by simp; omega)]; exact hc⟩

/-- One cell, with the address laid open. -/
theorem Rd.form {α : Type} {enc : α → Value} {w : World} {a : Option Addr} {xs : List α} (h : Rd enc w a xs) (h0 : 0 < xs.length) :
    ∃ b off, a = some ⟨b, off, none⟩ ∧ b < w.heap.size ∧ ∀ i (hi : i < xs.length), w.cell? ⟨b, off + i, none⟩ = some (enc xs[i]) := by
  obtain ⟨b, off, ha, hlt, _⟩ := h 0 h0
  refine ⟨b, off, ha, hlt, fun i hi => ?_⟩
  obtain ⟨b', off', ha', _, hc⟩ := h i hi
  rw [ha] at ha'
  simp only [Option.some.injEq, Addr.mk.injEq, and_true] at ha'
  obtain ⟨rfl, rfl⟩ := ha'
  exact hc

theorem Rd.at {α : Type} {enc : α → Value} {w : World} {b off : Nat} {xs : List α} (h : Rd enc w (some ⟨b, off, none⟩) xs) (i : Nat) (hi : i < xs.length) : b < w.heap.size ∧ w.cell? ⟨b, off + i, none⟩ = some (enc xs[i]) := by
  obtain ⟨b', off', ha, hlt, hc⟩ := h i hi
  simp only [Option.some.injEq, Addr.mk.injEq, and_true] at ha
  obtain ⟨rfl, rfl⟩ := ha
  exact ⟨hlt, hc⟩

theorem Rd.take {α : Type} {enc : α → Value} {w : World} {a : Option Addr} {xs : List α} (h : Rd enc w a xs) (k : Nat) : Rd enc w a (xs.take k) := by
  intro i hi
  have hi' : i < xs.length := by simp at hi; omega
  obtain ⟨b, off, ha, hlt, hc⟩ := h i hi'
  exact ⟨b, off, ha, hlt, by rw [List.getElem_take]; exact hc⟩

theorem cutA_zero (a : Option Addr) (m s : Nat) : cutA a 0 m s = a := by
  unfold cutA
  split
  · rfl
  · cases a <;> simp [Addr.add]

theorem Rd.drop {α : Type} {enc : α → Value} {w : World} {a : Option Addr} {xs : List α} (h : Rd enc w a xs) (l m : Nat) (hm : xs.length ≤ m) : Rd enc w (cutA a l m 1) (xs.drop l) := by
  intro i hi
  have hi' : l + i < xs.length := by simp at hi; omega
  obtain ⟨b, off, ha, hlt, hc⟩ := h (l + i) hi'
  refine ⟨b, off + l, ?_, hlt, ?_⟩
  · subst ha
    unfold cutA
    rw [if_neg (by omega)]
    by_cases h0 : l = 0 <;> simp [Addr.add, h0]
  · rw [List.getElem_drop, Nat.add_assoc]; exact hc

/-- A new block of one cell. -/
theorem Rd.one {α : Type} (enc : α → Value) (w : World) (x : α) (t : TypeId) (fr : Nat × Nat) : Rd enc (w.alloc (.cells #[enc x] t fr)) (some ⟨w.heap.size, 0, none⟩) [x] := by
  intro i hi
  simp at hi
  subst hi
  exact ⟨w.heap.size, 0, rfl, by simp, by rw [Nat.zero_add, cell_of_row _ _ _ _ _ _ (heap_alloc_new w _)]; simp⟩

theorem Rd.oneDrew {α : Type} (enc : α → Value) (w : World) (x : α) (t : TypeId) (fr : Nat × Nat) : Rd enc (w.alloc (.cells #[enc x] t fr)).drew (some ⟨w.heap.size, 0, none⟩) [x] :=
  (Rd.one enc w x t fr).below (Below.refl _ _).drew (Nat.le_refl _)

/-- `v` is a slice of one-cell elements that reads as `xs`. -/
def Sl {α : Type} (enc : α → Value) (w : World) (v : Value) (xs : List α) : Prop :=
  ∃ a cap, v = .slice a xs.length cap ∧ xs.length ≤ cap ∧ cap ≤ maxLen ∧ (a = none → cap = 0) ∧ Rd enc w a xs

theorem Sl.below {α : Type} {enc : α → Value} {w w' : World} {v : Value} {xs : List α} (h : Sl enc w v xs) {B : Nat} (hb : Below B w w') (hB : w.heap.size ≤ B) : Sl enc w' v xs := by
  obtain ⟨a, cap, h1, h2, h3, h4, h5⟩ := h
  exact ⟨a, cap, h1, h2, h3, h4, h5.below hb hB⟩

theorem Sl.nil {α : Type} (enc : α → Value) (w : World) : Sl enc w (.slice none 0 0) [] :=
  ⟨none, 0, rfl, by simp, by simp [maxLen], fun _ => rfl, Rd.nil _ _ _⟩

/-- What a call owns reads as a slice. -/
theorem Sl.ofOwn {α : Type} {enc : α → Value} {w : World} {base : Nat} {e : TypeId} {v : Value} {n : Nat} {xs : List α}
    (h : w.ownsRow base e 1 v n (xs.map enc)) : Sl enc w v xs := by
  obtain ⟨hl, h⟩ := h
  simp at hl
  rcases h with ⟨rfl, rfl⟩ | ⟨g, cap, cur, rfl, _, hg, hn, hm, hs, ht⟩
  · have : xs = [] := by simpa using hl
    subst this
    exact Sl.nil _ _
  · subst hl
    refine ⟨some ⟨g, 0, none⟩, cap, rfl, hn, hm, by simp, fun i hi => ⟨g, 0, rfl, ?_, ?_⟩⟩
    · exact (Array.getElem?_eq_some_iff.1 hg).1
    · rw [Nat.zero_add, cell_of_row w g i cur e (0, 0) hg]
      have h1 : (cur.toList.take (xs.length * 1))[i]? = (xs.map enc)[i]? := by rw [ht]
      rw [List.getElem?_take, if_pos (by omega)] at h1
      simp [hi] at h1
      simpa using h1

theorem wrap_u32_in (n : Int) (h0 : 0 ≤ n) (h1 : n < 4294967296) : IntKind.u32.wrap n = n := by
  simp only [IntKind.wrap, IntKind.bits, IntKind.signed, Bool.false_and]
  simp
  omega

theorem and_one_u32 (E : Int) (h0 : 0 ≤ E) (h1 : E < 4294967296) : bits BinOp.and IntKind.u32 E 1 = E % 2 := by
  obtain ⟨a, rfl⟩ := Int.eq_ofNat_of_zero_le h0
  have hx : a &&& 1 < 2 ^ 32 := Nat.and_lt_two_pow _ (by omega)
  have h1' : (BitVec.ofInt 32 (a : Int)).toNat = a := by
    rw [BitVec.ofInt_natCast, BitVec.toNat_ofNat]; exact Nat.mod_eq_of_lt (by omega)
  show IntKind.u32.wrap ((BitVec.ofInt 32 (a : Int) &&& BitVec.ofInt 32 (1 : Int)).toNat : Int) = _
  rw [BitVec.toNat_and, h1', show (BitVec.ofInt 32 (1 : Int)).toNat = 1 from rfl, wrap_u32_in _ (by omega) (by omega), Nat.and_one_is_mod]
  omega

theorem below_grown {B : Nat} {w w' : World} {row : Option Nat} (hg : w.grownBy w' row) (hB : B ≤ w.heap.size) (hr : ∀ k, row = some k → B ≤ k) : Below B w w' :=
  (Below.refl B w).grown hg hB hr

section
variable {P : Program} {w : World} {ops : Array Oper} {rest : List Oper} {o : Oper} {a : Act} {Q : Exit → Act → World → Prop}

/-- What an append leaves of another block `g`: it is as it was, and the new slice does not lie in it. -/
def Spares (w w' : World) (v v' : Value) : Prop := ∀ g, g < w.heap.size → v.ownBlock ≠ some g → w'.heap[g]? = w.heap[g]? ∧ v'.ownBlock ≠ some g

/-- `append(s, x...)`, s the call's own, x whatever reads as a list: nil, empty, cut. -/
theorem wp_append_rd {α : Type} {K : Act → World → Prop} (enc : α → Value) (henc : ∀ x, (enc x).oneCell' = true) (s x : Operand) (t : TypeId)
    (ho : o.op = .call { callee := .builtin .append, args := #[s, x], argTypes := #[t, t] })
    (base : Nat) (e : TypeId) (i : TypeInfo) (z : Value) (bytes : Nat) (ht : P.underlying t = some (.slice e)) (hi : P.info? e = some i) (hz : i.zero = some z)
    (hsize : i.size = 1) (hby : i.bytes = bytes) (hzs : z.cells.size = 1)
    (v : Value) (n : Nat) (xs : List α) (hs : a.eval s = v) (hown : w.ownsRow base e 1 v n (xs.map enc))
    (ad : Option Addr) (c : Nat) (ys : List α) (m : Nat) (hx : a.eval x = .slice ad m c) (hm : ys.length = m) (hc : ad = none → c = 0) (hmc : m ≤ c) (hrd : Rd enc w ad ys)
    (h63 : n + m ≤ maxLen) (hbytes : (n + m) * bytes ≤ 140737488355328) (hbase : base ≤ w.heap.size)
    (h : ∀ v' w', w'.ownsRow base e 1 v' (n + m) ((xs ++ ys).map enc) → Spares w w' v v' → Below base w w' → K (a.put o.dst v') w') : o.wp P a w K Q := by
  subst hm
  have hb : ∀ w', w.grownBy w' v.ownBlock → Below base w w' := fun w' hg => below_grown hg hbase fun k hk => (hown.lt k hk).1
  cases ad with
  | none =>
    have hc0 := hc rfl
    subst hc0
    have hy : ys = [] := by cases ys with
      | nil => rfl
      | cons y ys => simp at hmc
    subst hy
    have hrun := run_append_owned_none (P := P) (w := w) base t o.type e i 1 ht hi v n (xs.map enc) hown
    have hx' : a.eval x = .slice none 0 0 := by simpa using hx
    unfold Oper.wp
    simp only [execOp, ho, resolve, invoke, builtin, Sem.run_bind, Sem.run_pure, Result.andThen_ok, List.map_toArray, List.map_cons, List.map_nil, hs, hx', hrun]
    exact h v w (by simpa using hown) (fun g _ hg => ⟨rfl, hg⟩) (Below.refl _ _)
  | some ad =>
    have hnews : ∀ j u, (ys.map enc)[j]? = some u → w.cell? (ad.add j) = some u := by
      intro j u hj
      have hj' : j < ys.length := by
        have := (List.getElem?_eq_some_iff.1 hj).1
        simpa using this
      obtain ⟨b, off, ha, _, hcell⟩ := hrd j hj'
      simp at ha
      subst ha
      rw [List.getElem?_map, List.getElem?_eq_getElem hj'] at hj
      simp at hj
      subst hj
      have : (⟨b, off, none⟩ : Addr).add j = ⟨b, off + j, none⟩ := by
        by_cases h0 : j = 0 <;> simp [Addr.add, h0]
      rw [this]; exact hcell
    have h1 : ∀ u ∈ ys.map enc, u.oneCell' = true := by
      intro u hu
      simp at hu
      obtain ⟨x, _, rfl⟩ := hu
      exact henc x
    obtain ⟨v', w', hr, h2, h3, _, h5⟩ := run_append_own_at (P := P) w base t o.type e i z 1 bytes ht hi hz hsize hby hzs (by omega) v n (xs.map enc) hown ad ys.length c (ys.map enc) (by simp) hnews h1 h63 hbytes hbase
    unfold Oper.wp execOp
    simp only [ho, resolve, invoke, builtin, Sem.run_bind, Sem.run_pure, Result.andThen_ok, List.map_toArray, List.map_cons, List.map_nil, hs, hx, hr]
    refine h v' w' (by rw [List.map_append]; exact h2) (fun g hg hne => ⟨h3.block g hg (Ne.symm hne), ?_⟩) (hb w' h3)
    rcases h5 with h5 | h5
    · rw [h5]; exact hne
    · rw [h5]; intro e; simp at e; omega

theorem wpList_append_rd {α : Type} (enc : α → Value) (henc : ∀ x, (enc x).oneCell' = true) (hgd : o.guard = none) (s x : Operand) (t : TypeId)
    (ho : o.op = .call { callee := .builtin .append, args := #[s, x], argTypes := #[t, t] })
    (base : Nat) (e : TypeId) (i : TypeInfo) (z : Value) (bytes : Nat) (ht : P.underlying t = some (.slice e)) (hi : P.info? e = some i) (hz : i.zero = some z)
    (hsize : i.size = 1) (hby : i.bytes = bytes) (hzs : z.cells.size = 1)
    (v : Value) (n : Nat) (xs : List α) (hs : a.eval s = v) (hown : w.ownsRow base e 1 v n (xs.map enc))
    (ad : Option Addr) (c : Nat) (ys : List α) (m : Nat) (hx : a.eval x = .slice ad m c) (hm : ys.length = m) (hc : ad = none → c = 0) (hmc : m ≤ c) (hrd : Rd enc w ad ys)
    (h63 : n + m ≤ maxLen) (hbytes : (n + m) * bytes ≤ 140737488355328) (hbase : base ≤ w.heap.size)
    (h : ∀ v' w', w'.ownsRow base e 1 v' (n + m) ((xs ++ ys).map enc) → Spares w w' v v' → Below base w w' → wpList P ops Q rest (a.put o.dst v') w') : wpList P ops Q (o :: rest) a w :=
  wpList_plain hgd fun _ hK => wp_append_rd enc henc s x t ho base e i z bytes ht hi hz hsize hby hzs v n xs hs hown ad c ys m hx hm hc hmc hrd h63 hbytes hbase fun v' w' h2 h3 h4 => hK _ _ (h v' w' h2 h3 h4)

/-- The same at a step of a region that draws its order. -/
theorem step_append_rd {α : Type} {K : Act → World → Prop} {E : Prop} (enc : α → Value) (henc : ∀ x, (enc x).oneCell' = true) (hgd : o.guard = none) (s x : Operand) (t : TypeId)
    (ho : o.op = .call { callee := .builtin .append, args := #[s, x], argTypes := #[t, t] })
    (base : Nat) (e : TypeId) (i : TypeInfo) (z : Value) (bytes : Nat) (ht : P.underlying t = some (.slice e)) (hi : P.info? e = some i) (hz : i.zero = some z)
    (hsize : i.size = 1) (hby : i.bytes = bytes) (hzs : z.cells.size = 1)
    (v : Value) (n : Nat) (xs : List α) (hs : a.eval s = v) (hown : w.ownsRow base e 1 v n (xs.map enc))
    (ad : Option Addr) (c : Nat) (ys : List α) (m : Nat) (hx : a.eval x = .slice ad m c) (hm : ys.length = m) (hc : ad = none → c = 0) (hmc : m ≤ c) (hrd : Rd enc w ad ys)
    (h63 : n + m ≤ maxLen) (hbytes : (n + m) * bytes ≤ 140737488355328) (hbase : base ≤ w.heap.size)
    (h : ∀ v' w', w'.ownsRow base e 1 v' (n + m) ((xs ++ ys).map enc) → Spares w w' v v' → Below base w w' → K (a.put o.dst v') w') :
    if Region.wanted o (yielded ops a.tmps) = true then Oper.wp P o a w K Q else E := by
  have hw : Region.wanted o (yielded ops a.tmps) = true := by simp [Region.wanted, hgd]
  rw [if_pos hw]
  exact wp_append_rd enc henc s x t ho base e i z bytes ht hi hz hsize hby hzs v n xs hs hown ad c ys m hx hm hc hmc hrd h63 hbytes hbase h
end

/-- A new empty row of the call's own. -/
theorem own_empty {w : World} {base g : Nat} {e : TypeId} (h : w.heap[g]? = some (.cells #[] e (0, 0))) (hb : base ≤ g) : w.ownsRow base e 1 (.slice (some ⟨g, 0, none⟩) 0 0) 0 [] :=
  ⟨by simp, .inr ⟨g, 0, #[], rfl, hb, h, Nat.le_refl _, Nat.zero_le _, by simp, by simp⟩⟩

/-- A block of one cell reads as a list of one. -/
theorem Rd.block {α : Type} {enc : α → Value} {w : World} {g : Nat} {x : α} {t : TypeId} {fr : Nat × Nat} (h : w.heap[g]? = some (.cells #[enc x] t fr)) : Rd enc w (some ⟨g, 0, none⟩) [x] := by
  intro i hi
  simp at hi
  subst hi
  exact ⟨g, 0, rfl, (Array.getElem?_eq_some_iff.1 h).1, by rw [Nat.zero_add, cell_of_row _ _ _ _ _ _ h]; simp⟩

/-- A slice of integers that came in, as the row's frame tells it, reads as a list. -/
theorem Sl.ofCells {k : IntKind} {w : World} {a : Option Addr} {len cap : Nat} {zs : List Int}
    (h : (a = none ∧ len = 0 ∧ cap = 0 ∧ zs = []) ∨
      ∃ x, a = some x ∧ len ≤ cap ∧ cap ≤ maxLen ∧ zs.length = cap ∧ (∀ i, i < zs.length → w.cell? (x.add i) = some (.int k (zs.getD i 0))) ∧ ∀ n ∈ zs, (Lit.int k n).wf = true) :
    ∃ xs : List Int, Sl (Value.int k) w (.slice a len cap) xs ∧ xs.length = len ∧ ∀ n ∈ xs, (Lit.int k n).wf = true := by
  rcases h with ⟨rfl, rfl, rfl, rfl⟩ | ⟨x, rfl, h1, h2, h3, hc, hw⟩
  · exact ⟨[], Sl.nil _ _, rfl, by simp⟩
  · refine ⟨zs.take len, ⟨some x, cap, by simp [h3, h1], by simp; omega, h2, by simp, fun i hi => ?_⟩, by simp [h3, h1], fun n hn => hw n (List.mem_of_mem_take hn)⟩
    have hi' : i < zs.length := by simp at hi; omega
    have h0 := hc 0 (by omega)
    have hs : x.spot = none := by simpa [Addr.add] using World.cell?_spot h0
    obtain ⟨b, off, spot⟩ := x
    subst hs
    refine ⟨b, off, rfl, World.block_lt_of_cell? w _ h0, ?_⟩
    have := hc i hi'
    rw [List.getElem_take]
    have ha : (⟨b, off, none⟩ : Addr).add i = ⟨b, off + i, none⟩ := by
      by_cases h0 : i = 0 <;> simp [Addr.add, h0]
    rw [ha] at this
    rw [this]
    simp [hi']

/-- A byte as a value. -/
def eb (b : UInt8) : Value := .int .u8 (b.toNat : Int)
end Go.Proofs.Ytkgheilaleekdaa
