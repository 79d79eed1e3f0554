/-
  No statement is proved here: words for slices, boxes, maps and calls in memory.
-/
import Derived.WalkKit
import Derived.WalkSpells
import Derived.WalkLawsBesides
import Derived.Laws.AppendOwnNone
import Derived.Lib.Hide
import Derived.Shelf.Abstract
import Derived.Deep.RegionHeld3
import Derived.Deep.AppendLies
import Derived.Deep.DrawnRows
import Derived.BigQuiet
import Derived.Deep.QuietTactic
import Derived.Deep.RegionWith
import Derived.Maps.AppendAt
import Derived.Handy
import Derived.Laws.CopyOwn
import Derived.Laws.IdiomCopy
import Derived.Maps.Own
import Derived.Maps.OwnOps
import Derived.Maps.Views
import Derived.Test.YtbklmpekpcneeaaRows
import Derived.Laws.BytesArg
import Derived.Lib.SliceRun
import Derived.Test.YtbklmpekpcneeaaBa
import Derived.OpenShut
import Derived.Deep.Slices
import Derived.Deep.Fields
set_option linter.unusedVariables false
set_option linter.unusedSimpArgs false
namespace Go.Proofs.Ytbklmpekpcneeaa
open Go.RowKit
set_option maxRecDepth 100000

/-- The address `a` leads to a row whose cells from its start on hold `xs`. Nothing is said where `xs` is empty. -/
def Rd {α : Type} (enc : α → Value) (w : World) (a : Option Addr) (xs : List α) : Prop :=
  ∀ i (h : i < xs.length), ∃ b off, a = some ⟨b, off, none⟩ ∧ b < w.heap.size ∧ w.cell? ⟨b, off + i, none⟩ = some (enc xs[i])

/-- The address of a slice that is cut at `l` (its capacity is `m`), as the model gives it. -/
def cutA (a : Option Addr) (l m s : Nat) : Option Addr := if m = l then a else a.map (·.add (l * s))

theorem Rd.nil {α : Type} (enc : α → Value) (w : World) (a : Option Addr) : Rd enc w a [] := fun i h => absurd h (by simp)

theorem Rd.below {α : Type} {enc : α → Value} {w w' : World} {a : Option Addr} {xs : List α} (h : Rd enc w a xs) {B : Nat} (hb : Below B w w') (hB : w.heap.size ≤ B) : Rd enc w' a xs := by
  intro i hi
  obtain ⟨b, off, ha, hlt, hc⟩ := h i hi
  exact ⟨b, off, ha, Nat.lt_of_lt_of_le hlt hb.size, by rw [hb.cell (p := ⟨b, off + i, none⟩) (by simp; omega)]; exact hc⟩

/-- One cell, with the address laid open. -/
theorem Rd.form {α : Type} {enc : α → Value} {w : World} {a : Option Addr} {xs : List α} (h : Rd enc w a xs) (h0 : 0 < xs.length) :
    ∃ b off, a = some ⟨b, off, none⟩ ∧ b < w.heap.size ∧ ∀ i (hi : i < xs.length), w.cell? ⟨b, off + i, none⟩ = some (enc xs[i]) := by
  obtain ⟨b, off, ha, hlt, _⟩ := h 0 h0
  refine ⟨b, off, ha, hlt, fun i hi => ?_⟩
  obtain ⟨b', off', ha', _, hc⟩ := h i hi
  rw [ha] at ha'
  simp only [Option.some.injEq, Addr.mk.injEq, and_true] at ha'
  obtain ⟨rfl, rfl⟩ := ha'
  exact hc

theorem Rd.at {α : Type} {enc : α → Value} {w : World} {b off : Nat} {xs : List α} (h : Rd enc w (some ⟨b, off, none⟩) xs) (i : Nat) (hi : i < xs.length) : b < w.heap.size ∧ w.cell? ⟨b, off + i, none⟩ = some (enc xs[i]) := by
  obtain ⟨b', off', ha, hlt, hc⟩ := h i hi
  simp only [Option.some.injEq, Addr.mk.injEq, and_true] at ha
  obtain ⟨rfl, rfl⟩ := ha
  exact ⟨hlt, hc⟩

theorem Rd.take {α : Type} {enc : α → Value} {w : World} {a : Option Addr} {xs : List α} (h : Rd enc w a xs) (k : Nat) : Rd enc w a (xs.take k) := by
  intro i hi
  have hi' : i < xs.length := by simp at hi; omega
  obtain ⟨b, off, ha, hlt, hc⟩ := h i hi'
  exact ⟨b, off, ha, hlt, by rw [List.getElem_take]; exact hc⟩

theorem cutA_zero (a : Option Addr) (m s : Nat) : cutA a 0 m s = a := by
  unfold cutA
  split
  · rfl
  · cases a <;> simp [Addr.add]

theorem Rd.drop {α : Type} {enc : α → Value} {w : World} {a : Option Addr} {xs : List α} (h : Rd enc w a xs) (l m : Nat) (hm : xs.length ≤ m) : Rd enc w (cutA a l m 1) (xs.drop l) := by
  intro i hi
  have hi' : l + i < xs.length := by simp at hi; omega
  obtain ⟨b, off, ha, hlt, hc⟩ := h (l + i) hi'
  refine ⟨b, off + l, ?_, hlt, ?_⟩
  · subst ha
    unfold cutA
    rw [if_neg (by omega)]
    by_cases h0 : l = 0 <;> simp [Addr.add, h0]
  · rw [List.getElem_drop, Nat.add_assoc]; exact hc

/-- A new block of one cell. -/
theorem Rd.one {α : Type} (enc : α → Value) (w : World) (x : α) (t : TypeId) (fr : Nat × Nat) : Rd enc (w.alloc (.cells #[enc x] t fr)) (some ⟨w.heap.size, 0, none⟩) [x] := by
  intro i hi
  simp at hi
  subst hi
  exact ⟨w.heap.size, 0, rfl, by simp, by rw [Nat.zero_add, cell_of_row _ _ _ _ _ _ (heap_alloc_new w _)]; simp⟩

theorem Rd.oneDrew {α : Type} (enc : α → Value) (w : World) (x : α) (t : TypeId) (fr : Nat × Nat) : Rd enc (w.alloc (.cells #[enc x] t fr)).drew (some ⟨w.heap.size, 0, none⟩) [x] :=
  (Rd.one enc w x t fr).below (Below.refl _ _).drew (Nat.le_refl _)

/-- `v` is a slice of one-cell elements that reads as `xs`. -/
def Sl {α : Type} (enc : α → Value) (w : World) (v : Value) (xs : List α) : Prop :=
  ∃ a cap, v = .slice a xs.length cap ∧ xs.length ≤ cap ∧ cap ≤ maxLen ∧ (a = none → cap = 0) ∧ Rd enc w a xs

theorem Sl.below {α : Type} {enc : α → Value} {w w' : World} {v : Value} {xs : List α} (h : Sl enc w v xs) {B : Nat} (hb : Below B w w') (hB : w.heap.size ≤ B) : Sl enc w' v xs := by
  obtain ⟨a, cap, h1, h2, h3, h4, h5⟩ := h
  exact ⟨a, cap, h1, h2, h3, h4, h5.below hb hB⟩

theorem Sl.nil {α : Type} (enc : α → Value) (w : World) : Sl enc w (.slice none 0 0) [] :=
  ⟨none, 0, rfl, by simp, by simp [maxLen], fun _ => rfl, Rd.nil _ _ _⟩

/-- What a call owns reads as a slice. -/
theorem Sl.ofOwn {α : Type} {enc : α → Value} {w : World} {base : Nat} {e : TypeId} {v : Value} {n : Nat} {xs : List α}
    (h : w.ownsRow base e 1 v n (xs.map enc)) : Sl enc w v xs := by
  obtain ⟨hl, h⟩ := h
  simp at hl
  rcases h with ⟨rfl, rfl⟩ | ⟨g, cap, cur, rfl, _, hg, hn, hm, hs, ht⟩
  · have : xs = [] := by simpa using hl
    subst this
    exact Sl.nil _ _
  · subst hl
    refine ⟨some ⟨g, 0, none⟩, cap, rfl, hn, hm, by simp, fun i hi => ⟨g, 0, rfl, ?_, ?_⟩⟩
    · exact (Array.getElem?_eq_some_iff.1 hg).1
    · rw [Nat.zero_add, cell_of_row w g i cur e (0, 0) hg]
      have h1 : (cur.toList.take (xs.length * 1))[i]? = (xs.map enc)[i]? := by rw [ht]
      rw [List.getElem?_take, if_pos (by omega)] at h1
      simp [hi] at h1
      simpa using h1

theorem wrap_u32_in (n : Int) (h0 : 0 ≤ n) (h1 : n < 4294967296) : IntKind.u32.wrap n = n := by
  simp only [IntKind.wrap, IntKind.bits, IntKind.signed, Bool.false_and]
  simp
  omega

theorem and_one_u32 (E : Int) (h0 : 0 ≤ E) (h1 : E < 4294967296) : bits BinOp.and IntKind.u32 E 1 = E % 2 := by
  obtain ⟨a, rfl⟩ := Int.eq_ofNat_of_zero_le h0
  have hx : a &&& 1 < 2 ^ 32 := Nat.and_lt_two_pow _ (by omega)
  have h1' : (BitVec.ofInt 32 (a : Int)).toNat = a := by
    rw [BitVec.ofInt_natCast, BitVec.toNat_ofNat]; exact Nat.mod_eq_of_lt (by omega)
  show IntKind.u32.wrap ((BitVec.ofInt 32 (a : Int) &&& BitVec.ofInt 32 (1 : Int)).toNat : Int) = _
  rw [BitVec.toNat_and, h1', show (BitVec.ofInt 32 (1 : Int)).toNat = 1 from rfl, wrap_u32_in _ (by omega) (by omega), Nat.and_one_is_mod]
  omega

theorem below_grown {B : Nat} {w w' : World} {row : Option Nat} (hg : w.grownBy w' row) (hB : B ≤ w.heap.size) (hr : ∀ k, row = some k → B ≤ k) : Below B w w' :=
  (Below.refl B w).grown hg hB hr

section
variable {P : Program} {w : World} {ops : Array Oper} {rest : List Oper} {o : Oper} {a : Act} {Q : Exit → Act → World → Prop}

/-- What an append leaves of another block `g`: it is as it was, and the new slice does not lie in it. -/
def Spares (w w' : World) (v v' : Value) : Prop := ∀ g, g < w.heap.size → v.ownBlock ≠ some g → w'.heap[g]? = w.heap[g]? ∧ v'.ownBlock ≠ some g

/-- `append(s, x...)`, s the call's own, x whatever reads as a list: nil, empty, cut. -/
theorem wp_append_rd {α : Type} {K : Act → World → Prop} (enc : α → Value) (henc : ∀ x, (enc x).oneCell' = true) (s x : Operand) (t : TypeId)
    (ho : o.op = .call { callee := .builtin .append, args := #[s, x], argTypes := #[t, t] })
    (base : Nat) (e : TypeId) (i : TypeInfo) (z : Value) (bytes : Nat) (ht : P.underlying t = some (.slice e)) (hi : P.info? e = some i) (hz : i.zero = some z)
    (hsize : i.size = 1) (hby : i.bytes = bytes) (hzs : z.cells.size = 1)
    (v : Value) (n : Nat) (xs : List α) (hs : a.eval s = v) (hown : w.ownsRow base e 1 v n (xs.map enc))
    (ad : Option Addr) (c : Nat) (ys : List α) (m : Nat) (hx : a.eval x = .slice ad m c) (hm : ys.length = m) (hc : ad = none → c = 0) (hmc : m ≤ c) (hrd : Rd enc w ad ys)
    (h63 : n + m ≤ maxLen) (hbytes : (n + m) * bytes ≤ 140737488355328) (hbase : base ≤ w.heap.size)
    (h : ∀ v' w', w'.ownsRow base e 1 v' (n + m) ((xs ++ ys).map enc) → Spares w w' v v' → Below base w w' → K (a.put o.dst v') w') : o.wp P a w K Q := by
  subst hm
  have hb : ∀ w', w.grownBy w' v.ownBlock → Below base w w' := fun w' hg => below_grown hg hbase fun k hk => (hown.lt k hk).1
  cases ad with
  | none =>
    have hc0 := hc rfl
    subst hc0
    have hy : ys = [] := by cases ys with
      | nil => rfl
      | cons y ys => simp at hmc
    subst hy
    have hrun := run_append_owned_none (P := P) (w := w) base t o.type e i 1 ht hi v n (xs.map enc) hown
    have hx' : a.eval x = .slice none 0 0 := by simpa using hx
    unfold Oper.wp
    simp only [execOp, ho, resolve, invoke, builtin, Sem.run_bind, Sem.run_pure, Result.andThen_ok, List.map_toArray, List.map_cons, List.map_nil, hs, hx', hrun]
    exact h v w (by simpa using hown) (fun g _ hg => ⟨rfl, hg⟩) (Below.refl _ _)
  | some ad =>
    have hnews : ∀ j u, (ys.map enc)[j]? = some u → w.cell? (ad.add j) = some u := by
      intro j u hj
      have hj' : j < ys.length := by
        have := (List.getElem?_eq_some_iff.1 hj).1
        simpa using this
      obtain ⟨b, off, ha, _, hcell⟩ := hrd j hj'
      simp at ha
      subst ha
      rw [List.getElem?_map, List.getElem?_eq_getElem hj'] at hj
      simp at hj
      subst hj
      have : (⟨b, off, none⟩ : Addr).add j = ⟨b, off + j, none⟩ := by
        by_cases h0 : j = 0 <;> simp [Addr.add, h0]
      rw [this]; exact hcell
    have h1 : ∀ u ∈ ys.map enc, u.oneCell' = true := by
      intro u hu
      simp at hu
      obtain ⟨x, _, rfl⟩ := hu
      exact henc x
    obtain ⟨v', w', hr, h2, h3, _, h5⟩ := run_append_own_at (P := P) w base t o.type e i z 1 bytes ht hi hz hsize hby hzs (by omega) v n (xs.map enc) hown ad ys.length c (ys.map enc) (by simp) hnews h1 h63 hbytes hbase
    unfold Oper.wp execOp
    simp only [ho, resolve, invoke, builtin, Sem.run_bind, Sem.run_pure, Result.andThen_ok, List.map_toArray, List.map_cons, List.map_nil, hs, hx, hr]
    refine h v' w' (by rw [List.map_append]; exact h2) (fun g hg hne => ⟨h3.block g hg (Ne.symm hne), ?_⟩) (hb w' h3)
    rcases h5 with h5 | h5
    · rw [h5]; exact hne
    · rw [h5]; intro e; simp at e; omega

theorem wpList_append_rd {α : Type} (enc : α → Value) (henc : ∀ x, (enc x).oneCell' = true) (hgd : o.guard = none) (s x : Operand) (t : TypeId)
    (ho : o.op = .call { callee := .builtin .append, args := #[s, x], argTypes := #[t, t] })
    (base : Nat) (e : TypeId) (i : TypeInfo) (z : Value) (bytes : Nat) (ht : P.underlying t = some (.slice e)) (hi : P.info? e = some i) (hz : i.zero = some z)
    (hsize : i.size = 1) (hby : i.bytes = bytes) (hzs : z.cells.size = 1)
    (v : Value) (n : Nat) (xs : List α) (hs : a.eval s = v) (hown : w.ownsRow base e 1 v n (xs.map enc))
    (ad : Option Addr) (c : Nat) (ys : List α) (m : Nat) (hx : a.eval x = .slice ad m c) (hm : ys.length = m) (hc : ad = none → c = 0) (hmc : m ≤ c) (hrd : Rd enc w ad ys)
    (h63 : n + m ≤ maxLen) (hbytes : (n + m) * bytes ≤ 140737488355328) (hbase : base ≤ w.heap.size)
    (h : ∀ v' w', w'.ownsRow base e 1 v' (n + m) ((xs ++ ys).map enc) → Spares w w' v v' → Below base w w' → wpList P ops Q rest (a.put o.dst v') w') : wpList P ops Q (o :: rest) a w :=
  wpList_plain hgd fun _ hK => wp_append_rd enc henc s x t ho base e i z bytes ht hi hz hsize hby hzs v n xs hs hown ad c ys m hx hm hc hmc hrd h63 hbytes hbase fun v' w' h2 h3 h4 => hK _ _ (h v' w' h2 h3 h4)

/-- The same at a step of a region that draws its order. -/
theorem step_append_rd {α : Type} {K : Act → World → Prop} {E : Prop} (enc : α → Value) (henc : ∀ x, (enc x).oneCell' = true) (hgd : o.guard = none) (s x : Operand) (t : TypeId)
    (ho : o.op = .call { callee := .builtin .append, args := #[s, x], argTypes := #[t, t] })
    (base : Nat) (e : TypeId) (i : TypeInfo) (z : Value) (bytes : Nat) (ht : P.underlying t = some (.slice e)) (hi : P.info? e = some i) (hz : i.zero = some z)
    (hsize : i.size = 1) (hby : i.bytes = bytes) (hzs : z.cells.size = 1)
    (v : Value) (n : Nat) (xs : List α) (hs : a.eval s = v) (hown : w.ownsRow base e 1 v n (xs.map enc))
    (ad : Option Addr) (c : Nat) (ys : List α) (m : Nat) (hx : a.eval x = .slice ad m c) (hm : ys.length = m) (hc : ad = none → c = 0) (hmc : m ≤ c) (hrd : Rd enc w ad ys)
    (h63 : n + m ≤ maxLen) (hbytes : (n + m) * bytes ≤ 140737488355328) (hbase : base ≤ w.heap.size)
    (h : ∀ v' w', w'.ownsRow base e 1 v' (n + m) ((xs ++ ys).map enc) → Spares w w' v v' → Below base w w' → K (a.put o.dst v') w') :
    if Region.wanted o (yielded ops a.tmps) = true then Oper.wp P o a w K Q else E := by
  have hw : Region.wanted o (yielded ops a.tmps) = true := by simp [Region.wanted, hgd]
  rw [if_pos hw]
  exact wp_append_rd enc henc s x t ho base e i z bytes ht hi hz hsize hby hzs v n xs hs hown ad c ys m hx hm hc hmc hrd h63 hbytes hbase h
end

/-- A new empty row of the call's own. -/
theorem own_empty {w : World} {base g : Nat} {e : TypeId} (h : w.heap[g]? = some (.cells #[] e (0, 0))) (hb : base ≤ g) : w.ownsRow base e 1 (.slice (some ⟨g, 0, none⟩) 0 0) 0 [] :=
  ⟨by simp, .inr ⟨g, 0, #[], rfl, hb, h, Nat.le_refl _, Nat.zero_le _, by simp, by simp⟩⟩

/-- A block of one cell reads as a list of one. -/
theorem Rd.block {α : Type} {enc : α → Value} {w : World} {g : Nat} {x : α} {t : TypeId} {fr : Nat × Nat} (h : w.heap[g]? = some (.cells #[enc x] t fr)) : Rd enc w (some ⟨g, 0, none⟩) [x] := by
  intro i hi
  simp at hi
  subst hi
  exact ⟨g, 0, rfl, (Array.getElem?_eq_some_iff.1 h).1, by rw [Nat.zero_add, cell_of_row _ _ _ _ _ _ h]; simp⟩

/-- A slice of integers that came in, as the row's frame tells it, reads as a list. -/
theorem Sl.ofCells {k : IntKind} {w : World} {a : Option Addr} {len cap : Nat} {zs : List Int}
    (h : (a = none ∧ len = 0 ∧ cap = 0 ∧ zs = []) ∨
      ∃ x, a = some x ∧ len ≤ cap ∧ cap ≤ maxLen ∧ zs.length = cap ∧ (∀ i, i < zs.length → w.cell? (x.add i) = some (.int k (zs.getD i 0))) ∧ ∀ n ∈ zs, (Lit.int k n).wf = true) :
    ∃ xs : List Int, Sl (Value.int k) w (.slice a len cap) xs ∧ xs.length = len ∧ ∀ n ∈ xs, (Lit.int k n).wf = true := by
  rcases h with ⟨rfl, rfl, rfl, rfl⟩ | ⟨x, rfl, h1, h2, h3, hc, hw⟩
  · exact ⟨[], Sl.nil _ _, rfl, by simp⟩
  · refine ⟨zs.take len, ⟨some x, cap, by simp [h3, h1], by simp; omega, h2, by simp, fun i hi => ?_⟩, by simp [h3, h1], fun n hn => hw n (List.mem_of_mem_take hn)⟩
    have hi' : i < zs.length := by simp at hi; omega
    have h0 := hc 0 (by omega)
    have hs : x.spot = none := by simpa [Addr.add] using World.cell?_spot h0
    obtain ⟨b, off, spot⟩ := x
    subst hs
    refine ⟨b, off, rfl, World.block_lt_of_cell? w _ h0, ?_⟩
    have := hc i hi'
    rw [List.getElem_take]
    have ha : (⟨b, off, none⟩ : Addr).add i = ⟨b, off + i, none⟩ := by
      by_cases h0 : i = 0 <;> simp [Addr.add, h0]
    rw [ha] at this
    rw [this]
    simp [hi']

/-- A byte as a value. -/
def eb (b : UInt8) : Value := .int .u8 (b.toNat : Int)
end Go.Proofs.Ytbklmpekpcneeaa
namespace Go.Proofs.Ytbklmpekpcneeaa
open Go.RowKit
set_option maxRecDepth 100000

section
variable {α : Type} {s : Nat} {enc : α → List Value}

theorem flat_len (hs : ∀ x, (enc x).length = s) : ∀ xs : List α, (xs.flatMap enc).length = xs.length * s
  | [] => by simp
  | x :: r => by rw [List.flatMap_cons, List.length_append, flat_len hs r, hs, List.length_cons, Nat.add_mul]; omega

theorem flat_get (hs : ∀ x, (enc x).length = s) : ∀ (xs : List α) (i j : Nat) (hi : i < xs.length), j < s → (xs.flatMap enc)[i * s + j]? = (enc xs[i])[j]?
  | [], i, j, hi, _ => absurd hi (by simp)
  | x :: r, 0, j, _, hj => by
    rw [List.flatMap_cons, Nat.zero_mul, Nat.zero_add, List.getElem?_append_left (by rw [hs]; exact hj)]
    rfl
  | x :: r, i + 1, j, hi, hj => by
    rw [List.flatMap_cons, List.getElem?_append_right (by rw [hs, Nat.add_mul]; omega), hs, show (i + 1) * s + j - s = i * s + j by rw [Nat.add_mul]; omega, flat_get hs r i j (by simpa using hi) hj]
    rfl

theorem flat_set (hs : ∀ x, (enc x).length = s) : ∀ (xs : List α) (k j : Nat) (hk : k < xs.length) (y : α) (v : Value), j < s → enc y = (enc xs[k]).set j v → (xs.set k y).flatMap enc = (xs.flatMap enc).set (k * s + j) v
  | [], k, j, hk, _, _, _, _ => absurd hk (by simp)
  | x :: r, 0, j, _, y, v, hj, he => by
    rw [List.set_cons_zero, List.flatMap_cons, List.flatMap_cons, Nat.zero_mul, Nat.zero_add, List.set_append_left _ _ (by rw [hs]; exact hj), he]
    rfl
  | x :: r, k + 1, j, hk, y, v, hj, he => by
    rw [List.set_cons_succ, List.flatMap_cons, List.flatMap_cons, List.set_append_right _ _ (by rw [hs, Nat.add_mul]; omega), hs, show (k + 1) * s + j - s = k * s + j by rw [Nat.add_mul]; omega, flat_set hs r k j (by simpa using hk) y v hj he]

/-- The address leads to rows of s cells that read as xs. -/
def Rm (s : Nat) (enc : α → List Value) (w : World) (a : Option Addr) (xs : List α) : Prop :=
  ∀ i (h : i < xs.length), ∃ b off, a = some ⟨b, off, none⟩ ∧ b < w.heap.size ∧ ∀ j, j < s → w.cell? ⟨b, off + i * s + j, none⟩ = (enc xs[i])[j]?

theorem Rm.nil (w : World) (a : Option Addr) : Rm s enc w a [] := fun i h => absurd h (by simp)

theorem Rm.keep {w w' : World} {a : Option Addr} {xs : List α} (h : Rm s enc w a xs) (hk : ∀ b, b < w.heap.size → w'.heap[b]? = w.heap[b]?) : Rm s enc w' a xs := by
  intro i hi
  obtain ⟨b, off, ha, hlt, hc⟩ := h i hi
  have hb := hk b hlt
  refine ⟨b, off, ha, ?_, fun j hj => by rw [World.cell?_of_block (a := ⟨b, off + i * s + j, none⟩) hb]; exact hc j hj⟩
  rw [Array.getElem?_eq_getElem hlt] at hb
  exact (Array.getElem?_eq_some_iff.1 hb).1

theorem Rm.below {w w' : World} {a : Option Addr} {xs : List α} (h : Rm s enc w a xs) {B : Nat} (hb : Below B w w') (hB : w.heap.size ≤ B) : Rm s enc w' a xs := h.keep fun b hl => hb.block b (by omega)

theorem Rm.form {w : World} {a : Option Addr} {xs : List α} (h : Rm s enc w a xs) (h0 : 0 < xs.length) :
    ∃ b off, a = some ⟨b, off, none⟩ ∧ b < w.heap.size ∧ ∀ i (hi : i < xs.length) j, j < s → w.cell? ⟨b, off + i * s + j, none⟩ = (enc xs[i])[j]? := by
  obtain ⟨b, off, ha, hlt, _⟩ := h 0 h0
  refine ⟨b, off, ha, hlt, fun i hi j hj => ?_⟩
  obtain ⟨b', off', ha', _, hc⟩ := h i hi
  rw [ha] at ha'
  simp only [Option.some.injEq, Addr.mk.injEq, and_true] at ha'
  obtain ⟨rfl, rfl⟩ := ha'
  exact hc j hj

/-- A new block that holds one element. -/
theorem Rm.one (w : World) (x : α) (t : TypeId) (n : Nat) (hn : n = w.heap.size) : Rm s enc (w.alloc (.cells (enc x).toArray t (0, 0))) (some ⟨n, 0, none⟩) [x] := by
  subst hn
  intro i hi
  simp at hi
  subst hi
  refine ⟨w.heap.size, 0, rfl, by simp, fun j hj => ?_⟩
  rw [cell_of_row _ _ _ _ _ _ (heap_alloc_new w _)]
  simp

theorem Rm.drew {w : World} {a : Option Addr} {xs : List α} (h : Rm s enc w a xs) : Rm s enc w.drew a xs := h

/-- v is a slice of elements of s cells that reads as xs. -/
def Sm (s : Nat) (enc : α → List Value) (w : World) (v : Value) (xs : List α) : Prop :=
  ∃ a cap, v = .slice a xs.length cap ∧ xs.length ≤ cap ∧ cap ≤ maxLen ∧ (a = none → cap = 0) ∧ Rm s enc w a xs

theorem Sm.nil (w : World) : Sm s enc w (.slice none 0 0) [] := ⟨none, 0, rfl, by simp, by simp [maxLen], fun _ => rfl, Rm.nil _ _⟩
theorem Sm.keep {w w' : World} {v : Value} {xs : List α} (h : Sm s enc w v xs) (hk : ∀ b, b < w.heap.size → w'.heap[b]? = w.heap[b]?) : Sm s enc w' v xs := by
  obtain ⟨a, cap, h1, h2, h3, h4, h5⟩ := h
  exact ⟨a, cap, h1, h2, h3, h4, h5.keep hk⟩
theorem Sm.below {w w' : World} {v : Value} {xs : List α} (h : Sm s enc w v xs) {B : Nat} (hb : Below B w w') (hB : w.heap.size ≤ B) : Sm s enc w' v xs := h.keep fun b hl => hb.block b (by omega)

theorem Sm.ofOwn (hs : ∀ x, (enc x).length = s) {w : World} {base : Nat} {e : TypeId} {v : Value} {n : Nat} {xs : List α} (h : w.ownsRow base e s v n (xs.flatMap enc)) (hn : n = xs.length) : Sm s enc w v xs := by
  subst hn
  rcases h.2 with ⟨rfl, h0⟩ | ⟨g, cap, cur, rfl, _, hg, hn, hm, hsz, ht⟩
  · have : xs = [] := List.eq_nil_of_length_eq_zero h0
    subst this
    exact Sm.nil _
  · refine ⟨some ⟨g, 0, none⟩, cap, rfl, hn, hm, by simp, fun i hi => ⟨g, 0, rfl, (Array.getElem?_eq_some_iff.1 hg).1, fun j hj => ?_⟩⟩
    rw [cell_of_row w g _ cur e (0, 0) hg, ← flat_get hs xs i j hi hj, ← ht, List.getElem?_take]
    have : i * s + j < xs.length * s := by
      have h1 : (i + 1) * s ≤ xs.length * s := Nat.mul_le_mul_right _ hi
      rw [Nat.add_mul] at h1
      omega
    rw [if_pos (by omega)]
    simp
end

section
variable {P : Program} {w : World} {ops : Array Oper} {rest : List Oper} {o : Oper} {a : Act} {Q : Exit → Act → World → Prop} {α : Type} {s : Nat} {enc : α → List Value}

/-- `append(out, x...)`, the elements of several cells. -/
theorem wp_append_m {K : Act → World → Prop} (enc : α → List Value) (hs : ∀ x, (enc x).length = s) (hs0 : 0 < s) (henc : ∀ x, ∀ u ∈ enc x, u.oneCell' = true) (so x : Operand) (t : TypeId)
    (ho : o.op = .call { callee := .builtin .append, args := #[so, x], argTypes := #[t, t] })
    (base : Nat) (e : TypeId) (i : TypeInfo) (z : Value) (bytes : Nat) (ht : P.underlying t = some (.slice e)) (hi : P.info? e = some i) (hz : i.zero = some z)
    (hsize : i.size = s) (hby : i.bytes = bytes) (hzs : z.cells.size = s)
    (v : Value) (n : Nat) (xs : List α) (hsv : a.eval so = v) (hown : w.ownsRow base e s v n (xs.flatMap enc))
    (ad : Option Addr) (c : Nat) (ys : List α) (m : Nat) (hx : a.eval x = .slice ad m c) (hm : ys.length = m) (hc : ad = none → c = 0) (hmc : m ≤ c) (hrd : Rm s enc w ad ys)
    (h63 : n + m ≤ maxLen) (hbytes : (n + m) * bytes ≤ 140737488355328) (hbase : base ≤ w.heap.size)
    (h : ∀ v' w', w'.ownsRow base e s v' (n + m) ((xs ++ ys).flatMap enc) → Spares w w' v v' → Below base w w' → K (a.put o.dst v') w') : o.wp P a w K Q := by
  subst hm
  have hb : ∀ w', w.grownBy w' v.ownBlock → Below base w w' := fun w' hg => below_grown hg hbase fun k hk => (hown.lt k hk).1
  cases ad with
  | none =>
    have hc0 := hc rfl
    subst hc0
    have hy : ys = [] := by cases ys with
      | nil => rfl
      | cons y ys => simp at hmc
    subst hy
    have hrun := run_append_owned_none (P := P) (w := w) base t o.type e i s ht hi v n (xs.flatMap enc) hown
    have hx' : a.eval x = .slice none 0 0 := by simpa using hx
    unfold Oper.wp
    simp only [execOp, ho, resolve, invoke, builtin, Sem.run_bind, Sem.run_pure, Result.andThen_ok, List.map_toArray, List.map_cons, List.map_nil, hsv, hx', hrun]
    exact h v w (by simpa using hown) (fun g _ hg => ⟨rfl, hg⟩) (Below.refl _ _)
  | some ad =>
    have hnews : ∀ j u, (ys.flatMap enc)[j]? = some u → w.cell? (ad.add j) = some u := by
      intro j u hj
      have hj' : j < ys.length * s := by
        have := (List.getElem?_eq_some_iff.1 hj).1
        rwa [flat_len hs] at this
      have hq : j / s < ys.length := Nat.div_lt_of_lt_mul (by rw [Nat.mul_comm]; exact hj')
      have hr : j % s < s := Nat.mod_lt _ hs0
      have hjq : j / s * s + j % s = j := by rw [Nat.mul_comm]; exact Nat.div_add_mod j s
      obtain ⟨b, off, ha, _, hcell⟩ := hrd (j / s) hq
      simp at ha
      subst ha
      have h1 := flat_get hs ys (j / s) (j % s) hq hr
      rw [hjq, hj] at h1
      have h2 := hcell (j % s) hr
      rw [← h1] at h2
      have : (⟨b, off, none⟩ : Addr).add j = ⟨b, off + j / s * s + j % s, none⟩ := by
        rw [Nat.add_assoc, hjq]
        by_cases h0 : j = 0 <;> simp [Addr.add, h0]
      rw [this]; exact h2
    have h1 : ∀ u ∈ ys.flatMap enc, u.oneCell' = true := by
      intro u hu
      obtain ⟨y, _, hy⟩ := List.mem_flatMap.1 hu
      exact henc y u hy
    obtain ⟨v', w', hr, h2, h3, _, h5⟩ := run_append_own_at (P := P) w base t o.type e i z s bytes ht hi hz hsize hby hzs hs0 v n (xs.flatMap enc) hown ad ys.length c (ys.flatMap enc) (flat_len hs ys) hnews h1 h63 hbytes hbase
    unfold Oper.wp execOp
    simp only [ho, resolve, invoke, builtin, Sem.run_bind, Sem.run_pure, Result.andThen_ok, List.map_toArray, List.map_cons, List.map_nil, hsv, hx, hr]
    refine h v' w' (by rw [List.flatMap_append]; exact h2) (fun g hg hne => ⟨h3.block g hg (Ne.symm hne), ?_⟩) (hb w' h3)
    rcases h5 with h5 | h5
    · rw [h5]; exact hne
    · rw [h5]; intro e; simp at e; omega

theorem wpList_append_m (enc : α → List Value) (hs : ∀ x, (enc x).length = s) (hs0 : 0 < s) (henc : ∀ x, ∀ u ∈ enc x, u.oneCell' = true) (hgd : o.guard = none) (so x : Operand) (t : TypeId)
    (ho : o.op = .call { callee := .builtin .append, args := #[so, x], argTypes := #[t, t] })
    (base : Nat) (e : TypeId) (i : TypeInfo) (z : Value) (bytes : Nat) (ht : P.underlying t = some (.slice e)) (hi : P.info? e = some i) (hz : i.zero = some z)
    (hsize : i.size = s) (hby : i.bytes = bytes) (hzs : z.cells.size = s)
    (v : Value) (n : Nat) (xs : List α) (hsv : a.eval so = v) (hown : w.ownsRow base e s v n (xs.flatMap enc))
    (ad : Option Addr) (c : Nat) (ys : List α) (m : Nat) (hx : a.eval x = .slice ad m c) (hm : ys.length = m) (hc : ad = none → c = 0) (hmc : m ≤ c) (hrd : Rm s enc w ad ys)
    (h63 : n + m ≤ maxLen) (hbytes : (n + m) * bytes ≤ 140737488355328) (hbase : base ≤ w.heap.size)
    (h : ∀ v' w', w'.ownsRow base e s v' (n + m) ((xs ++ ys).flatMap enc) → Spares w w' v v' → Below base w w' → wpList P ops Q rest (a.put o.dst v') w') : wpList P ops Q (o :: rest) a w :=
  wpList_plain hgd fun _ hK => wp_append_m enc hs hs0 henc so x t ho base e i z bytes ht hi hz hsize hby hzs v n xs hsv hown ad c ys m hx hm hc hmc hrd h63 hbytes hbase fun v' w' h2 h3 h4 => hK _ _ (h v' w' h2 h3 h4)

theorem step_append_m {K : Act → World → Prop} {E : Prop} (enc : α → List Value) (hs : ∀ x, (enc x).length = s) (hs0 : 0 < s) (henc : ∀ x, ∀ u ∈ enc x, u.oneCell' = true) (hgd : o.guard = none) (so x : Operand) (t : TypeId)
    (ho : o.op = .call { callee := .builtin .append, args := #[so, x], argTypes := #[t, t] })
    (base : Nat) (e : TypeId) (i : TypeInfo) (z : Value) (bytes : Nat) (ht : P.underlying t = some (.slice e)) (hi : P.info? e = some i) (hz : i.zero = some z)
    (hsize : i.size = s) (hby : i.bytes = bytes) (hzs : z.cells.size = s)
    (v : Value) (n : Nat) (xs : List α) (hsv : a.eval so = v) (hown : w.ownsRow base e s v n (xs.flatMap enc))
    (ad : Option Addr) (c : Nat) (ys : List α) (m : Nat) (hx : a.eval x = .slice ad m c) (hm : ys.length = m) (hc : ad = none → c = 0) (hmc : m ≤ c) (hrd : Rm s enc w ad ys)
    (h63 : n + m ≤ maxLen) (hbytes : (n + m) * bytes ≤ 140737488355328) (hbase : base ≤ w.heap.size)
    (h : ∀ v' w', w'.ownsRow base e s v' (n + m) ((xs ++ ys).flatMap enc) → Spares w w' v v' → Below base w w' → K (a.put o.dst v') w') :
    if Region.wanted o (yielded ops a.tmps) = true then Oper.wp P o a w K Q else E := by
  have hw : Region.wanted o (yielded ops a.tmps) = true := by simp [Region.wanted, hgd]
  rw [if_pos hw]
  exact wp_append_m enc hs hs0 henc so x t ho base e i z bytes ht hi hz hsize hby hzs v n xs hsv hown ad c ys m hx hm hc hmc hrd h63 hbytes hbase h
end
end Go.Proofs.Ytbklmpekpcneeaa
namespace Go.Proofs.Ytbklmpekpcneeaa
open Go.RowKit
set_option maxRecDepth 100000

/-- Block g is just the cells l, of element type t, none frozen. -/
def Bk (w : World) (g : Nat) (t : TypeId) (l : List Value) : Prop := w.heap[g]? = some (.cells l.toArray t (0, 0))

section
variable {w w' : World} {g : Nat} {t : TypeId} {l : List Value}
theorem Bk.lt (h : Bk w g t l) : g < w.heap.size := (Array.getElem?_eq_some_iff.1 h).1
theorem Bk.cell (h : Bk w g t l) (i : Nat) : w.cell? ⟨g, i, none⟩ = l[i]? := by rw [cell_of_row w g i l.toArray t (0, 0) h]; simp
theorem Bk.frozen (h : Bk w g t l) (i : Nat) : w.frozen? ⟨g, i, none⟩ = false := frozen_of_row w g i _ t h
theorem Bk.keep (h : Bk w g t l) (hk : w'.heap[g]? = w.heap[g]?) : Bk w' g t l := hk.trans h
theorem Bk.below {B : Nat} (h : Bk w g t l) (hb : Below B w w') (hg : g < B) : Bk w' g t l := h.keep (hb.block g hg)
theorem Bk.grown {row : Option Nat} (h : Bk w g t l) (hb : w.grownBy w' row) (hg : row ≠ some g) : Bk w' g t l := h.keep (hb.block g h.lt (Ne.symm hg))
theorem Bk.set (h : Bk w g t l) (i : Nat) (u : Value) : Bk (w.setCell ⟨g, i, none⟩ u) g t (l.set i u) := by
  unfold Bk at h ⊢
  simp [World.setCell, Array.getElem?_modify, h]
theorem Bk.far (h : Bk w g t l) {p : Addr} (hp : g ≠ p.block) (u : Value) : Bk (w.setCell p u) g t l := h.keep (Below.heap_setCell w p u g hp)
theorem Bk.new (w : World) (t : TypeId) (l : List Value) : Bk (w.alloc (.cells l.toArray t (0, 0))) w.heap.size t l := heap_alloc_new w _
theorem Bk.newAt (w : World) (t : TypeId) (l : List Value) {n : Nat} (hn : n = w.heap.size) : Bk (w.alloc (.cells l.toArray t (0, 0))) n t l := hn ▸ heap_alloc_new w _
theorem Bk.alloc (h : Bk w g t l) (o : Obj) : Bk (w.alloc o) g t l := h.keep (Below.heap_alloc w o g h.lt)
theorem Bk.own {base : Nat} (h : Bk w g t l) (hb : base ≤ g) (hm : l.length ≤ maxLen) : w.ownsRow base t 1 (.slice (some ⟨g, 0, none⟩) l.length l.length) l.length l :=
  ⟨by simp, .inr ⟨g, l.length, l.toArray, rfl, hb, h, Nat.le_refl _, hm, by simp, by simp⟩⟩
end

theorem grown_set {w : World} {g i : Nat} {u : Value} : w.grownBy (w.setCell ⟨g, i, none⟩ u) (some g) :=
  ⟨rfl, rfl, rfl, by simp, fun k _ hk => heap_setCell_other w ⟨g, i, none⟩ k u (fun e => hk (by simp [e]))⟩

theorem grown_trans {a b c : World} {row : Option Nat} (h : a.grownBy b row) (k : b.grownBy c row) : a.grownBy c row :=
  ⟨k.os.trans h.os, k.tape.trans h.tape, k.output.trans h.output, Nat.le_trans h.size k.size, fun i hi hne => (k.block i (Nat.lt_of_lt_of_le hi h.size) hne).trans (h.block i hi hne)⟩

theorem grown_drew {a b : World} {row : Option Nat} (h : a.grownBy b row) : a.grownBy b.drew row := ⟨h.os, h.tape, h.output, h.size, h.block⟩

theorem grown_of_below {a b : World} (h : Below a.heap.size a b) (row : Option Nat) : a.grownBy b row := ⟨h.os, h.tape, h.output, h.size, fun i hi _ => h.block i hi⟩

theorem below_of_grown {B g : Nat} {w w' : World} (hg : w.grownBy w' (some g)) (hB : B ≤ g) (hw : B ≤ w.heap.size) : Below B w w' := (Below.refl B w).grown hg hw fun k hk => by simp at hk; omega

theorem splice_get {α : Type} (L : List α) (off : Nat) (cs : List α) (h : off + cs.length ≤ L.length) (j : Nat) :
    (splice L off cs)[j]? = if j < off then L[j]? else if j < off + cs.length then cs[j - off]? else L[j]? := by
  unfold splice
  rw [List.getElem?_append]
  have e : (L.take off).length = off := by simp; omega
  rw [e]
  by_cases h1 : j < off
  · rw [if_pos h1, if_pos h1, List.getElem?_take, if_pos h1]
  · rw [if_neg h1, if_neg h1, List.getElem?_append]
    by_cases h2 : j < off + cs.length
    · rw [if_pos h2, if_pos (by omega)]
    · rw [if_neg h2, if_neg (by omega), List.getElem?_drop]
      congr 1
      omega

section
variable {P : Program} {w : World} {ops : Array Oper} {rest : List Oper} {o : Oper} {a : Act} {Q : Exit → Act → World → Prop}

theorem run_copy_rd {α : Type} (enc : α → Value) (henc : ∀ x, (enc x).oneCell' = true) (dT sT ty : TypeId) (elem : TypeId) (hu : P.underlying dT = some (.slice elem)) (hsz : (P.info? elem).map (·.size) = some 1)
    (dp : Option Addr) (g off dLen dCap : Nat) (sp : Option Addr) (ys : List α) (m sCap n : Nat) (hm : ys.length = m) (hn : Nat.min m dLen = n) (hdp : 0 < n → dp = some ⟨g, off, none⟩) (hrd : Rd enc w sp ys)
    (cur : List Value) (t : TypeId) (hg : Bk w g t cur) (hfit : off + n ≤ cur.length) :
    ∃ w', (Builtin.copy_ #[dT, sT] ty #[.slice dp dLen dCap, .slice sp m sCap]).run P w = .ok (goInt n) w' ∧ Bk w' g t (splice cur off ((ys.take n).map enc)) ∧ w.grownBy w' (some g) := by
  have hln : n ≤ m ∧ n ≤ dLen := by
    have h1 := Nat.min_le_left m dLen
    have h2 := Nat.min_le_right m dLen
    have h3 : Nat.min m dLen = n := hn
    exact ⟨by rw [← h3]; exact h1, by rw [← h3]; exact h2⟩
  have hcl : ((ys.take n).map enc).length = n := by simp; omega
  by_cases h0 : n = 0
  · subst h0
    have hrun := run_copy_none (P := P) w dT sT ty elem dp sp dLen dCap m sCap hu hsz hn
    exact ⟨w, hrun, by simpa [splice] using hg, World.grownBy.refl w _⟩
  · obtain ⟨b, so, rfl, hlt, hc⟩ := hrd.form (by omega)
    rw [hdp (by omega)]
    have hrun := run_copy_row (P := P) w dT sT ty elem g off dLen dCap ⟨b, so, none⟩ m sCap cur.toArray t ((ys.take n).map enc) hu hsz hg (by rw [hcl, hn]) (fun j u hj => by
      have hj' : j < n := by have := (List.getElem?_eq_some_iff.1 hj).1; omega
      have ha : (⟨b, so, none⟩ : Addr).add j = ⟨b, so + j, none⟩ := by by_cases h0 : j = 0 <;> simp [Addr.add, h0]
      rw [ha, hc j (by omega)]
      rw [List.getElem?_map, List.getElem?_take, if_pos hj', List.getElem?_eq_getElem (by omega)] at hj
      simpa using hj) (by rw [hcl]; simpa using hfit) (fun v hv => by
        obtain ⟨x, _, rfl⟩ := List.mem_map.1 hv
        exact henc x)
    rw [hcl] at hrun
    refine ⟨_, hrun, ?_, ⟨rfl, rfl, rfl, by simp [World.setRow], fun k _ hk => setRow_other w g k _ (fun e => hk (by rw [e]))⟩⟩
    unfold Bk
    rw [setRow_heap w g cur.toArray _ t _ hg]
    simp only [splice, hcl, List.append_assoc]

/-- `copy(d, s)` into a block that is known whole. -/
theorem wp_copy_rd {α : Type} {K : Act → World → Prop} (enc : α → Value) (henc : ∀ x, (enc x).oneCell' = true) (d s : Operand) (dT sT : TypeId)
    (ho : o.op = .call { callee := .builtin .copy, args := #[d, s], argTypes := #[dT, sT] }) (elem : TypeId) (hu : P.underlying dT = some (.slice elem)) (hsz : (P.info? elem).map (·.size) = some 1)
    (dp : Option Addr) (g off dLen dCap : Nat) (sp : Option Addr) (ys : List α) (m sCap n : Nat) (hd : a.eval d = .slice dp dLen dCap) (hs : a.eval s = .slice sp m sCap) (hm : ys.length = m) (hn : Nat.min m dLen = n) (hdp : 0 < n → dp = some ⟨g, off, none⟩) (hrd : Rd enc w sp ys)
    (cur : List Value) (t : TypeId) (hg : Bk w g t cur) (hfit : off + n ≤ cur.length)
    (h : ∀ w', Bk w' g t (splice cur off ((ys.take n).map enc)) → w.grownBy w' (some g) → K (a.put o.dst (goInt n)) w') : o.wp P a w K Q := by
  obtain ⟨w', hrun, h1, h2⟩ := run_copy_rd (P := P) (w := w) enc henc dT sT o.type elem hu hsz dp g off dLen dCap sp ys m sCap n hm hn hdp hrd cur t hg hfit
  unfold Oper.wp
  simp only [execOp, ho, resolve, invoke, builtin, Sem.run_bind, Sem.run_pure, Result.andThen_ok, List.map_toArray, List.map_cons, List.map_nil, hd, hs, hrun]
  exact h w' h1 h2

theorem wpList_copy_rd {α : Type} (enc : α → Value) (henc : ∀ x, (enc x).oneCell' = true) (hgd : o.guard = none) (d s : Operand) (dT sT : TypeId)
    (ho : o.op = .call { callee := .builtin .copy, args := #[d, s], argTypes := #[dT, sT] }) (elem : TypeId) (hu : P.underlying dT = some (.slice elem)) (hsz : (P.info? elem).map (·.size) = some 1)
    (dp : Option Addr) (g off dLen dCap : Nat) (sp : Option Addr) (ys : List α) (m sCap n : Nat) (hd : a.eval d = .slice dp dLen dCap) (hs : a.eval s = .slice sp m sCap) (hm : ys.length = m) (hn : Nat.min m dLen = n) (hdp : 0 < n → dp = some ⟨g, off, none⟩) (hrd : Rd enc w sp ys)
    (cur : List Value) (t : TypeId) (hg : Bk w g t cur) (hfit : off + n ≤ cur.length)
    (h : ∀ w', Bk w' g t (splice cur off ((ys.take n).map enc)) → w.grownBy w' (some g) → wpList P ops Q rest (a.put o.dst (goInt n)) w') : wpList P ops Q (o :: rest) a w :=
  wpList_plain hgd fun _ hK => wp_copy_rd enc henc d s dT sT ho elem hu hsz dp g off dLen dCap sp ys m sCap n hd hs hm hn hdp hrd cur t hg hfit fun w' h1 h2 => hK _ _ (h w' h1 h2)

theorem step_copy_rd {α : Type} {K : Act → World → Prop} {E : Prop} (enc : α → Value) (henc : ∀ x, (enc x).oneCell' = true) (hgd : o.guard = none) (d s : Operand) (dT sT : TypeId)
    (ho : o.op = .call { callee := .builtin .copy, args := #[d, s], argTypes := #[dT, sT] }) (elem : TypeId) (hu : P.underlying dT = some (.slice elem)) (hsz : (P.info? elem).map (·.size) = some 1)
    (dp : Option Addr) (g off dLen dCap : Nat) (sp : Option Addr) (ys : List α) (m sCap n : Nat) (hd : a.eval d = .slice dp dLen dCap) (hs : a.eval s = .slice sp m sCap) (hm : ys.length = m) (hn : Nat.min m dLen = n) (hdp : 0 < n → dp = some ⟨g, off, none⟩) (hrd : Rd enc w sp ys)
    (cur : List Value) (t : TypeId) (hg : Bk w g t cur) (hfit : off + n ≤ cur.length)
    (h : ∀ w', Bk w' g t (splice cur off ((ys.take n).map enc)) → w.grownBy w' (some g) → K (a.put o.dst (.int .i64 (n : Int))) w') :
    if Region.wanted o (yielded ops a.tmps) = true then Oper.wp P o a w K Q else E := by
  have hw : Region.wanted o (yielded ops a.tmps) = true := by simp [Region.wanted, hgd]
  rw [if_pos hw]
  exact wp_copy_rd enc henc d s dT sT ho elem hu hsz dp g off dLen dCap sp ys m sCap n hd hs hm hn hdp hrd cur t hg hfit h
end

/-- v is a slice of slices of bytes that reads as ps. -/
def Pg (w : World) (v : Value) (ps : List (List UInt8)) : Prop :=
  ∃ vs : List Value, Sl id w v vs ∧ vs.length = ps.length ∧ ∀ i (h : i < vs.length) (h' : i < ps.length), Sl eb w vs[i] ps[i]

theorem Pg.below {w w' : World} {v : Value} {ps : List (List UInt8)} (h : Pg w v ps) {B : Nat} (hb : Below B w w') (hB : w.heap.size ≤ B) : Pg w' v ps := by
  obtain ⟨vs, h1, h2, h3⟩ := h
  exact ⟨vs, h1.below hb hB, h2, fun i hi hi' => (h3 i hi hi').below hb hB⟩

theorem Pg.nil (w : World) : Pg w (.slice none 0 0) [] := ⟨[], Sl.nil _ _, rfl, fun i h => absurd h (by simp)⟩

/-- The shape of the value, and each element's cell. -/
theorem Pg.open {w : World} {v : Value} {ps : List (List UInt8)} (h : Pg w v ps) : ∃ a cap, v = .slice a ps.length cap ∧ ps.length ≤ cap ∧ cap ≤ maxLen ∧ (a = none → cap = 0) ∧
    ∀ i (hi : i < ps.length), ∃ b off a' c', a = some ⟨b, off, none⟩ ∧ b < w.heap.size ∧ w.cell? ⟨b, off + i, none⟩ = some (.slice a' ps[i].length c') ∧ ps[i].length ≤ c' ∧ c' ≤ maxLen ∧ (a' = none → c' = 0) ∧ Rd eb w a' ps[i] := by
  obtain ⟨vs, ⟨a, cap, h1, h2, h3, h4, h5⟩, hl, he⟩ := h
  refine ⟨a, cap, by rw [← hl]; exact h1, by omega, h3, h4, fun i hi => ?_⟩
  obtain ⟨b, off, ha, hlt, hc⟩ := h5 i (by omega)
  obtain ⟨a', c', e1, e2, e3, e4, e5⟩ := he i (by omega) hi
  exact ⟨b, off, a', c', ha, hlt, by rw [hc]; simp [e1], e2, e3, e4, e5⟩

theorem box1 {w w' : World} {u : Value} {T : TypeId} {fr : Nat × Nat} (hb : Below (w.alloc (.cells #[u] T fr)).heap.size (w.alloc (.cells #[u] T fr)) w') :
    Below w.heap.size w w' ∧ w'.cell? ⟨w.heap.size, 0, none⟩ = some u := by
  have hb0 : Below w.heap.size w (w.alloc (.cells #[u] T fr)) := (Below.refl _ w).alloc (Nat.le_refl _) _
  refine ⟨hb0.trans (hb.mono hb0.size), ?_⟩
  rw [hb.cell (p := ⟨w.heap.size, 0, none⟩) (by simp), cell_of_row _ _ _ _ _ _ (heap_alloc_new w _)]; rfl

theorem ret_int {k : IntKind} {a b : Int} (h : a = b) : Ending.returned (.int k a) = .returned (.int k b) := by rw [h]
theorem ret_bool {a b : Bool} (h : a = b) : Ending.returned (.bool a) = .returned (.bool b) := by rw [h]

theorem own_form {W : World} {base : Nat} {e : TypeId} {v : Value} {n : Nat} {cs : List Value} (h : W.ownsRow base e 1 v n cs) (hn : 0 < n) : ∃ g c, v = .slice (some ⟨g, 0, none⟩) n c := by
  rcases h.2 with ⟨_, h⟩ | ⟨g, c, _, h, _⟩
  · omega
  · exact ⟨g, c, h⟩

theorem own_slice {W : World} {base : Nat} {e : TypeId} {v : Value} {n : Nat} {cs : List Value} (h : W.ownsRow base e 1 v n cs) : ∃ a c, v = .slice a n c := by
  rcases h.2 with ⟨h1, h2⟩ | ⟨g, c, _, h, _⟩
  · exact ⟨none, 0, by rw [h2]; exact h1⟩
  · exact ⟨_, c, h⟩

theorem own_keep {w w' : World} {base n : Nat} {e : TypeId} {v : Value} {cs : List Value} (h : w.ownsRow base e 1 v n cs) (hk : ∀ k, v.ownBlock = some k → w'.heap[k]? = w.heap[k]?) : w'.ownsRow base e 1 v n cs := by
  refine ⟨h.1, h.2.elim .inl ?_⟩
  rintro ⟨g, cap, cur, hv, hg, hb, r⟩
  exact .inr ⟨g, cap, cur, hv, hg, by rw [hk g (by rw [hv]; rfl)]; exact hb, r⟩

theorem Sl.keep {α : Type} {enc : α → Value} {w w' : World} {v : Value} {xs : List α} (h : Sl enc w v xs) (hk : ∀ b, b < w.heap.size → w'.heap[b]? = w.heap[b]?) : Sl enc w' v xs := by
  obtain ⟨a, cap, h1, h2, h3, h4, h5⟩ := h
  refine ⟨a, cap, h1, h2, h3, h4, fun i hi => ?_⟩
  obtain ⟨b, off, ha, hlt, hc⟩ := h5 i hi
  have hb := hk b hlt
  refine ⟨b, off, ha, ?_, by rw [World.cell?_of_block (a := ⟨b, off + i, none⟩) hb]; exact hc⟩
  rw [Array.getElem?_eq_getElem hlt] at hb
  exact (Array.getElem?_eq_some_iff.1 hb).1
end Go.Proofs.Ytbklmpekpcneeaa
namespace Go.Proofs.Ytbklmpekpcneeaa
open Go.RowKit

/-- W is a later world of the call that began in w; the blocks of L are as L says. -/
def Keeps (w : World) (L : List (Nat × TypeId × List Value)) (W : World) : Prop := Below w.heap.size w W ∧ ∀ e ∈ L, Bk W e.1 e.2.1 e.2.2

section
variable {w W W' : World} {L : List (Nat × TypeId × List Value)}
theorem Keeps.start (w : World) : Keeps w [] w := ⟨Below.refl _ _, fun e h => by cases h⟩
theorem Keeps.step (h : Keeps w L W) (hb : Below W.heap.size W W') : Keeps w L W' := ⟨h.1.trans (hb.mono h.1.size), fun e he => (h.2 e he).below hb (h.2 e he).lt⟩
theorem Keeps.drew (h : Keeps w L W) : Keeps w L W.drew := ⟨h.1.drew, h.2⟩
theorem Keeps.drewN (h : Keeps w L W) (n : Nat) : Keeps w L (W.drewN n) := ⟨⟨h.1.os, h.1.tape, h.1.output, h.1.size, h.1.block⟩, h.2⟩
theorem Keeps.alloc (h : Keeps w L W) (o : Obj) : Keeps w L (W.alloc o) := ⟨h.1.alloc h.1.size o, fun e he => (h.2 e he).alloc o⟩
theorem Keeps.add (h : Keeps w L W) (t : TypeId) (l : List Value) {n : Nat} (hn : n = W.heap.size) : Keeps w ((n, t, l) :: L) (W.alloc (.cells l.toArray t (0, 0))) :=
  ⟨h.1.alloc h.1.size _, fun e he => by
    rcases List.mem_cons.1 he with rfl | he
    · exact Bk.newAt W t l hn
    · exact (h.2 e he).alloc _⟩
theorem Keeps.more (h : Keeps w L W) {g : Nat} {t : TypeId} {l : List Value} (hb : Bk W g t l) : Keeps w ((g, t, l) :: L) W :=
  ⟨h.1, fun e he => by
    rcases List.mem_cons.1 he with rfl | he
    · exact hb
    · exact h.2 e he⟩
theorem Keeps.less {L' : List (Nat × TypeId × List Value)} (h : Keeps w L W) (hL : ∀ e ∈ L', e ∈ L) : Keeps w L' W := ⟨h.1, fun e he => h.2 e (hL e he)⟩
theorem Keeps.set (h : Keeps w L W) {p : Addr} (hp : w.heap.size ≤ p.block) (hL : ∀ e ∈ L, e.1 ≠ p.block) (u : Value) : Keeps w L (W.setCell p u) :=
  ⟨h.1.setCell hp u, fun e he => (h.2 e he).far (hL e he) u⟩
theorem Keeps.grown (h : Keeps w L W) {g : Nat} (hg : W.grownBy W' (some g)) (hw : w.heap.size ≤ g) (hL : ∀ e ∈ L, e.1 ≠ g) : Keeps w L W' :=
  ⟨h.1.trans (below_of_grown hg hw h.1.size), fun e he => (h.2 e he).grown hg (fun e' => hL e he (by injection e' with e'; exact e'.symm))⟩
theorem Keeps.bk (h : Keeps w L W) {e : Nat × TypeId × List Value} (he : e ∈ L) : Bk W e.1 e.2.1 e.2.2 := h.2 e he
end

/-- All old cells and marks read as before: two rules for the walk. -/
theorem bcell {W w1 : World} (hb : Below W.heap.size W w1) : (∀ b o, b < W.heap.size → w1.cell? ⟨b, o, none⟩ = W.cell? ⟨b, o, none⟩) ∧ (∀ b o, b < W.heap.size → w1.frozen? ⟨b, o, none⟩ = W.frozen? ⟨b, o, none⟩) :=
  ⟨fun b o h => hb.cell (p := ⟨b, o, none⟩) h, fun b o h => hb.frozen (p := ⟨b, o, none⟩) h⟩
end Go.Proofs.Ytbklmpekpcneeaa
namespace Go.Proofs.Ytbklmpekpcneeaa
open Go.RowKit

theorem stepAny {w X W : World} (h : Below w.heap.size w X) (k : Below X.heap.size X W) : Below w.heap.size w W := h.trans (k.mono h.size)
theorem low_refl (w : World) : Below w.heap.size w w := Below.refl _ w
theorem low_drew (w : World) : Below w.heap.size w w.drew := (Below.refl _ w).drew
theorem low_alloc (w : World) (o : Obj) : Below w.heap.size w (w.alloc o) := (Below.refl _ w).alloc (Nat.le_refl _) o
theorem low_adrew (w : World) (o : Obj) : Below w.heap.size w (w.alloc o).drew := (low_alloc w o).drew
theorem low_drewN (w : World) (q : Nat) : Below w.heap.size w (w.drewN q) := ⟨rfl, rfl, rfl, Nat.le_refl _, fun _ _ => rfl⟩
theorem Below.lo {w W : World} (h : Below w.heap.size w W) : w.heap.size ≤ W.heap.size := h.size
/-- A world that is below another one and the next one. -/
theorem low_trans {w X W : World} (h : Below w.heap.size w X) (k : Below X.heap.size X W) : Below w.heap.size w W := h.trans (k.mono h.size)
end Go.Proofs.Ytbklmpekpcneeaa
namespace Go.Proofs.Ytbklmpekpcneeaa
open Go.RowKit
set_option maxRecDepth 100000

/-- P holds in every world that has the blocks of W, but for those of X. -/
def Av (X : Nat → Prop) (P : World → Prop) (W : World) : Prop := ∀ W' : World, (∀ b, b < W.heap.size → ¬ X b → W'.heap[b]? = W.heap[b]?) → P W'

/-- The blocks of a list, and the row that v owns. -/
def Bx (L : List Nat) (v : Value) (b : Nat) : Prop := b ∈ L ∨ v.ownBlock = some b

section
variable {X Y : Nat → Prop} {P Q : World → Prop} {W W' : World} {L : List Nat} {v v' : Value}
theorem Av.here (h : Av X P W) : P W := h W fun _ _ _ => rfl
theorem Av.mono (h : Av X P W) (k : ∀ W, P W → Q W) : Av X Q W := fun W' hW => k W' (h W' hW)
theorem Av.and (h : Av X P W) (k : Av X Q W) : Av X (fun W => P W ∧ Q W) W := fun W' hW => ⟨h W' hW, k W' hW⟩
theorem Av.less (h : Av X P W) (k : ∀ b, b < W.heap.size → Y b → X b) : Av Y P W := fun W' hW => h W' fun b hb hx => hW b hb fun hy => hx (k b hb hy)
/-- The world turns, but only in blocks of X and new ones. -/
theorem Av.keep (h : Av X P W) (hs : W.heap.size ≤ W'.heap.size) (hk : ∀ b, b < W.heap.size → ¬ X b → W'.heap[b]? = W.heap[b]?) : Av X P W' := fun W2 hW => h W2 fun b hb hx => (hW b (by omega) hx).trans (hk b hb hx)
theorem Av.below (h : Av X P W) (hb : Below W.heap.size W W') : Av X P W' := h.keep hb.size fun b hb' _ => hb.block b hb'
theorem Av.alloc (h : Av X P W) (o : Obj) : Av X P (W.alloc o) := h.below (low_alloc W o)
theorem Av.drew (h : Av X P W) : Av X P W.drew := h
theorem Av.set (h : Av X P W) {p : Addr} (hp : X p.block) (u : Value) : Av X P (W.setCell p u) := h.keep (by simp [World.setCell]) fun b _ hx => Below.heap_setCell _ _ _ _ (fun e => hx (e ▸ hp))
/-- Blocks that were not there yet may be set apart too. -/
theorem Av.more (h : Av X P W) (k : ∀ b, Y b → X b ∨ W.heap.size ≤ b) : Av Y P W := fun W' hW => h W' fun b hb hx => hW b hb fun hy => (k b hy).elim hx (by omega)
theorem Av.pure {p : Prop} (h : p) : Av X (fun _ => p) W := fun _ _ => h

/-- An append to the row that v owns. -/
theorem Av.spare (h : Av (Bx L v) P W) (hsz : W.heap.size ≤ W'.heap.size) (hs : Spares W W' v v') : Av (Bx L v') P W' := fun W2 hW => h W2 fun b hb hx =>
  have h1 := hs b hb (fun e => hx (.inr e))
  (hW b (by omega) (fun hy => hy.elim (fun hl => hx (.inl hl)) h1.2)).trans h1.1

theorem Av.listSet (h : Av (Bx L v) P W) {g i : Nat} (hg : g ∈ L) (u : Value) : Av (Bx L v) P (W.setCell ⟨g, i, none⟩ u) := h.set (p := ⟨g, i, none⟩) (.inl hg) u
end

theorem Sl.av {α : Type} {enc : α → Value} {W : World} {v : Value} {xs : List α} {B : Nat} {X : Nat → Prop} (h : Sl enc W v xs) (_hX : B = W.heap.size) (hx : ∀ b, X b → W.heap.size ≤ b) : Av X (fun W => Sl enc W v xs) W := fun W' hW => h.keep fun b hb => hW b hb fun hy => by have := hx b hy; omega

theorem Pg.keep {w w' : World} {v : Value} {ps : List (List UInt8)} (h : Pg w v ps) (hk : ∀ b, b < w.heap.size → w'.heap[b]? = w.heap[b]?) : Pg w' v ps := by
  obtain ⟨vs, h1, h2, h3⟩ := h
  exact ⟨vs, h1.keep hk, h2, fun i hi hi' => (h3 i hi hi').keep hk⟩

/-- A fact that only needs the blocks that are there does not hang on blocks that are not there yet. -/
theorem Av.start {P : World → Prop} {W : World} {X : Nat → Prop} (hP : ∀ W' : World, (∀ b, b < W.heap.size → W'.heap[b]? = W.heap[b]?) → P W') (hx : ∀ b, X b → W.heap.size ≤ b) : Av X P W := fun W' hW => hP W' fun b hb => hW b hb fun hy => by have := hx b hy; omega
end Go.Proofs.Ytbklmpekpcneeaa
namespace Go.Proofs.Ytbklmpekpcneeaa
open Go.RowKit
set_option maxRecDepth 100000

section
variable {P : Program} {w : World} {ops : Array Oper} {rest : List Oper} {o : Oper} {a : Act} {Q : Exit → Act → World → Prop}
theorem wpList_append_sl {α : Type} (enc : α → Value) (henc : ∀ x, (enc x).oneCell' = true) (hgd : o.guard = none) (s x : Operand) (t : TypeId)
    (ho : o.op = .call { callee := .builtin .append, args := #[s, x], argTypes := #[t, t] })
    (base : Nat) (e : TypeId) (i : TypeInfo) (z : Value) (bytes : Nat) (ht : P.underlying t = some (.slice e)) (hi : P.info? e = some i) (hz : i.zero = some z)
    (hsize : i.size = 1) (hby : i.bytes = bytes) (hzs : z.cells.size = 1)
    (v : Value) (n : Nat) (xs : List α) (hs : a.eval s = v) (hown : w.ownsRow base e 1 v n (xs.map enc))
    (u : Value) (ys : List α) (hx : a.eval x = u) (hrd : Sl enc w u ys)
    (h63 : n + ys.length ≤ maxLen) (hbytes : (n + ys.length) * bytes ≤ 140737488355328) (hbase : base ≤ w.heap.size)
    (h : ∀ v' w', w'.ownsRow base e 1 v' (n + ys.length) ((xs ++ ys).map enc) → Spares w w' v v' → Below base w w' → wpList P ops Q rest (a.put o.dst v') w') : wpList P ops Q (o :: rest) a w := by
  obtain ⟨ad, c, rfl, h1, -, h3, h4⟩ := hrd
  exact wpList_append_rd enc henc hgd s x t ho base e i z bytes ht hi hz hsize hby hzs v n xs hs hown ad c ys ys.length hx rfl h3 h1 h4 h63 hbytes hbase h

theorem step_append_sl {α : Type} {K : Act → World → Prop} {E : Prop} (enc : α → Value) (henc : ∀ x, (enc x).oneCell' = true) (hgd : o.guard = none) (s x : Operand) (t : TypeId)
    (ho : o.op = .call { callee := .builtin .append, args := #[s, x], argTypes := #[t, t] })
    (base : Nat) (e : TypeId) (i : TypeInfo) (z : Value) (bytes : Nat) (ht : P.underlying t = some (.slice e)) (hi : P.info? e = some i) (hz : i.zero = some z)
    (hsize : i.size = 1) (hby : i.bytes = bytes) (hzs : z.cells.size = 1)
    (v : Value) (n : Nat) (xs : List α) (hs : a.eval s = v) (hown : w.ownsRow base e 1 v n (xs.map enc))
    (u : Value) (ys : List α) (hx : a.eval x = u) (hrd : Sl enc w u ys)
    (h63 : n + ys.length ≤ maxLen) (hbytes : (n + ys.length) * bytes ≤ 140737488355328) (hbase : base ≤ w.heap.size)
    (h : ∀ v' w', w'.ownsRow base e 1 v' (n + ys.length) ((xs ++ ys).map enc) → Spares w w' v v' → Below base w w' → K (a.put o.dst v') w') :
    if Region.wanted o (yielded ops a.tmps) = true then Oper.wp P o a w K Q else E := by
  obtain ⟨ad, c, rfl, h1, -, h3, h4⟩ := hrd
  exact step_append_rd enc henc hgd s x t ho base e i z bytes ht hi hz hsize hby hzs v n xs hs hown ad c ys ys.length hx rfl h3 h1 h4 h63 hbytes hbase h
end

theorem own_below {w w' : World} {base n : Nat} {e : TypeId} {v : Value} {cs : List Value} (h : w.ownsRow base e 1 v n cs) (hb : Below w.heap.size w w') : w'.ownsRow base e 1 v n cs := own_keep h fun k hk => hb.block k (h.lt k hk).2
theorem own_sl {α : Type} {enc : α → Value} {w w' : World} {base n : Nat} {e : TypeId} {v : Value} {xs : List α} (h : w.ownsRow base e 1 v n (xs.map enc)) (hb : Below w.heap.size w w') : Sl enc w' v xs := Sl.ofOwn (own_below h hb)
end Go.Proofs.Ytbklmpekpcneeaa
namespace Go.Proofs.Ytbklmpekpcneeaa
open Go.RowKit Go.Maps

theorem elem_bool_inv {H : Type} {P : Program} {e : TypeId} (he : P.underlying e = some .bool) {v : Value} {z : DataW H × List MemPlace} (h : plainElem P e v = some z) : ∃ x, v = .bool x ∧ z = (.lit (.bool x), []) := by
  unfold plainElem at h
  rw [he] at h
  cases v <;> simp at h
  subst h
  exact ⟨_, rfl, rfl⟩

/-- Block b is a map of at most n entries; key x reads as f x. -/
def Mb (P : Program) (k e : TypeId) (w : World) (b n : Nat) (f : Int → Bool) : Prop :=
  ∃ D : DataW Nat, w.ownsMap P k (plainElem P e) b n D ∧ IsMap D ∧ ∀ x : Int, (Lit.int .i64 x).wf = true → D.atKey (.int .i64 x) (.lit (.bool false)) = .lit (.bool (f x))

section
variable {P : Program} {k e t : TypeId} {w w' : World} {b n : Nat} {f : Int → Bool}

theorem Mb.made (w : World) (P : Program) (k e : TypeId) : Mb P k e (w.alloc (.map #[] 0)) w.heap.size 0 (fun _ => false) :=
  ⟨.map [], World.ownsMap_made w P k _, isMap_empty, fun _ _ => rfl⟩
theorem Mb.lt (h : Mb P k e w b n f) : b < w.heap.size := by
  obtain ⟨D, h1, -⟩ := h
  exact h1.lt
theorem Mb.kept (h : Mb P k e w b n f) {row : Option Nat} (hg : w.grownBy w' row) (hne : some b ≠ row) : Mb P k e w' b n f := by
  obtain ⟨D, h1, h2, h3⟩ := h
  exact ⟨D, h1.kept hg hne, h2, h3⟩
theorem Mb.keep (h : Mb P k e w b n f) (hk : w'.heap[b]? = w.heap[b]?) : Mb P k e w' b n f := by
  obtain ⟨D, ⟨es, c, hb, r⟩, h2, h3⟩ := h
  exact ⟨D, ⟨es, c, hk.trans hb, r⟩, h2, h3⟩
theorem Mb.below (h : Mb P k e w b n f) {B : Nat} (hb : Below B w w') (hB : b < B) : Mb P k e w' b n f := h.keep (hb.block b hB)
theorem Mb.mono (h : Mb P k e w b n f) {n' : Nat} (hn : n ≤ n') : Mb P k e w b n' f := by
  obtain ⟨D, h1, h2, h3⟩ := h
  exact ⟨D, h1.mono hn, h2, h3⟩
theorem Mb.alloc (h : Mb P k e w b n f) (o : Obj) : Mb P k e (w.alloc o) b n f := h.keep (Below.heap_alloc w o b h.lt)
theorem Mb.as (h : Mb P k e w b n f) {g : Int → Bool} (hg : ∀ x, (Lit.int .i64 x).wf = true → f x = g x) : Mb P k e w b n g := by
  obtain ⟨D, h1, h2, h3⟩ := h
  exact ⟨D, h1, h2, fun x hx => by rw [h3 x hx, hg x hx]⟩

theorem Mb.look (h : Mb P k e w b n f) (hk : P.underlying k = some (.int .i64)) (ht : P.underlying t = some (.map k e)) (he : P.underlying e = some .bool) (hz : (zeroValue e).run P w = .ok (.bool false) w)
    {x : Int} (hx : (Lit.int .i64 x).wf = true) : (Instr.lookup t (.map (some b)) (.int .i64 x) false).run P w = .ok (.bool (f x)) w := by
  obtain ⟨D, h1, h2, h3⟩ := h
  obtain ⟨v, ps, hrun, hv⟩ := h1.lookup (int_keyed hk) ht hz (plainElem_bool he false) (keyOf_int_mk hk hx)
  obtain ⟨c, rfl, hc⟩ := elem_bool_inv he hv
  rw [h3 x hx] at hc
  simp only [Prod.mk.injEq, DataW.lit.injEq, Lit.bool.injEq] at hc
  rw [hrun, hc.1]

theorem Mb.store (h : Mb P k e w b n f) (hk : P.underlying k = some (.int .i64)) (ht : P.underlying t = some (.map k e)) (he : P.underlying e = some .bool) (hn : n < maxLen)
    {x : Int} (hx : (Lit.int .i64 x).wf = true) (c : Bool) : ∃ w', (Instr.mapUpdate t (.map (some b)) (.int .i64 x) (.bool c)).run P w = .ok () w' ∧ Mb P k e w' b (n + 1) (fun y => if y = x then c else f y) ∧ w.grownBy w' (some b) := by
  obtain ⟨D, h1, h2, h3⟩ := h
  obtain ⟨w', hrun, h4, h5⟩ := h1.update (int_keyed hk) ht hn (keyOf_int_mk hk hx) (plainElem_bool he c)
  refine ⟨w', hrun, ⟨_, h4, h2.put _ _, fun y hy => ?_⟩, h5⟩
  by_cases e : y = x
  · subst e
    rw [atKey_put_same h2 (by exact trivial)]
    simp
  · rw [atKey_put_other (by simpa using e), h3 y hy]
    simp [e]
end

section
variable {P : Program} {w : World} {ops : Array Oper} {rest : List Oper} {o : Oper} {a : Act} {Q : Exit → Act → World → Prop}
theorem wpList_lookup_mb (hg : o.guard = none) (m x : Operand) (t : TypeId) (hop : o.op = Op.lookup t m x false) (k e : TypeId) (hk : P.underlying k = some (.int .i64)) (ht : P.underlying t = some (.map k e)) (he : P.underlying e = some .bool) (hz : (zeroValue e).run P w = .ok (.bool false) w)
    (b n : Nat) (f : Int → Bool) (hm : a.eval m = .map (some b)) (h : Mb P k e w b n f) (y : Int) (hx : a.eval x = .int .i64 y) (hy : (Lit.int .i64 y).wf = true)
    (hK : wpList P ops Q rest (a.put o.dst (.bool (f y))) w) : wpList P ops Q (o :: rest) a w := by
  refine wpList_plain hg fun K' hK' => ?_
  have hrun := h.look hk ht he hz hy
  unfold Oper.wp
  simp [execOp, hop, hm, hx, hrun, Result.andThen]
  exact hK' _ _ hK

theorem wpList_update_mb (hg : o.guard = none) (m x v : Operand) (t : TypeId) (hop : o.op = Op.mapUpdate t m x v) (k e : TypeId) (hk : P.underlying k = some (.int .i64)) (ht : P.underlying t = some (.map k e)) (he : P.underlying e = some .bool)
    (b n : Nat) (f : Int → Bool) (hm : a.eval m = .map (some b)) (h : Mb P k e w b n f) (hn : n < maxLen) (y : Int) (hx : a.eval x = .int .i64 y) (hy : (Lit.int .i64 y).wf = true) (c : Bool) (hv : a.eval v = .bool c)
    (hK : ∀ w', Mb P k e w' b (n + 1) (fun z => if z = y then c else f z) → w.grownBy w' (some b) → wpList P ops Q rest (a.put o.dst undef) w') : wpList P ops Q (o :: rest) a w := by
  refine wpList_plain hg fun K' hK' => ?_
  obtain ⟨w', hrun, r1, r2⟩ := h.store hk ht he hn hy c
  unfold Oper.wp
  simp [execOp, hop, hm, hx, hv, hrun, Result.andThen]
  exact hK' _ _ (hK w' r1 r2)
end
end Go.Proofs.Ytbklmpekpcneeaa
namespace Go.Proofs.Ytbklmpekpcneeaa
open Go.RowKit
set_option maxRecDepth 100000

theorem strOf_bytes (xs : List UInt8) : strOfNums (xs.map fun b => (b.toNat : Int)) = ⟨xs.toArray⟩ := by
  unfold strOfNums
  rw [List.map_map]
  congr 2
  conv => rhs; rw [← List.map_id xs]
  apply List.map_congr_left
  intro b _
  simp

theorem conv_run (w : World) (a : Option Addr) (xs : List UInt8) (c : Nat) (h : Rd eb w a xs) : (convert 25 9 (.slice a xs.length c)).run Try.prog w = .ok (.string ⟨xs.toArray⟩) w := by
  have h1 : Try.prog.underlying 25 = some (.slice 5) := Try.underlying25
  have h2 : Try.prog.underlying 5 = some (.int .u8) := Try.underlying5
  have h3 : Try.prog.underlying 9 = some .string := Try.underlying9
  by_cases h0 : 0 < xs.length
  · obtain ⟨b, off, rfl, hb, hc⟩ := h.form h0
    have := run_convert_bytes_arg (P := Try.prog) w 25 5 h1 h2 b off xs.length c (xs.map fun b => (b.toNat : Int)) (by simp) (fun i hi => by
      rw [hc i hi]; simp [eb, hi]) 9 h3
    rw [strOf_bytes] at this
    exact this
  · obtain rfl : xs = [] := List.eq_nil_of_length_eq_zero (by omega)
    cases a with
    | none => exact run_convert_bytes_nil (P := Try.prog) w 25 5 h1 h2 0 c 9 h3
    | some p =>
      rw [run_convert_bytes_string w _ _ _ _ _ _ h1 h2 h3]
      have := run_bytesToString (P := Try.prog) w p 0 c [] (by simpa using run_loadCells_list (P := Try.prog) w p [] (by simp))
      exact this

/-- A slice of known length as a string. -/
theorem conv_sl {w : World} {a : Option Addr} {n c : Nat} {xs : List UInt8} (h : Sl eb w (.slice a n c) xs) : (convert 25 9 (.slice a n c)).run Try.prog w = .ok (.string ⟨xs.toArray⟩) w := by
  obtain ⟨a2, c2, q, -, -, -, hr⟩ := h
  injection q with q1 q2 q3
  subst q1 q2 q3
  exact conv_run w _ xs _ hr

theorem eb_ne {x y : UInt8} (h : x ≠ y) : ((x.toNat : Int) != (y.toNat : Int)) = true := by
  rw [bne_iff_ne]; intro e; exact h (UInt8.toNat_inj.1 (by omega))
theorem eb_ne' {x y : UInt8} (h : x ≠ y) : ((x.toNat : Int) == (y.toNat : Int)) = false := by
  rw [beq_eq_false_iff_ne]; intro e; exact h (UInt8.toNat_inj.1 (by omega))
end Go.Proofs.Ytbklmpekpcneeaa
namespace Go.Proofs.Ytbklmpekpcneeaa
open Go.RowKit
set_option maxRecDepth 100000

section
variable {P : Program} {w : World} {ops : Array Oper} {o : Oper} {a : Act} {Q : Exit → Act → World → Prop}
theorem wp_call_fn {K : Act → World → Prop} (f : FuncId) (os : List Operand) (ts : Array TypeId) (ho : o.op = .call { callee := .value (.func f), args := os.toArray, argTypes := ts })
    (vals : List Value) (hv : os.map a.eval = vals) (eg : ∀ args w, (callFunc f args).run P w = .ok (.enter f args) w) {R : Ending → World → Prop} (hC : Calls P f vals.toArray w R)
    (h : ∀ e w', R e w' → ∃ v, e = .returned v ∧ K (a.put o.dst v) w') : o.wp P a w K Q := by
  have hx : (execOp a.eval o).run P w = .ok (.enter f vals.toArray) w := by
    subst hv
    unfold execOp
    simp only [ho]
    simp [go_sem, resolve, invoke, eg]
  unfold Oper.wp
  rw [hx, Oper.upon_enter]
  refine hC.mono ?_
  intro e w' hR
  obtain ⟨v, rfl, hk⟩ := h e w' hR
  exact hk

theorem step_call {K : Act → World → Prop} {E : Prop} (hgd : o.guard = none) (f : FuncId) (os : List Operand) (ts : Array TypeId) (ho : o.op = .call { callee := .value (.func f), args := os.toArray, argTypes := ts })
    (vals : List Value) (hv : os.map a.eval = vals) (eg : ∀ args w, (callFunc f args).run P w = .ok (.enter f args) w) {R : Ending → World → Prop} (hC : Calls P f vals.toArray w R)
    (h : ∀ e w', R e w' → ∃ v, e = .returned v ∧ K (a.put o.dst v) w') :
    if Region.wanted o (yielded ops a.tmps) = true then Oper.wp P o a w K Q else E := by
  have hw : Region.wanted o (yielded ops a.tmps) = true := by simp [Region.wanted, hgd]
  rw [if_pos hw]
  exact wp_call_fn f os ts ho vals hv eg hC h
end
end Go.Proofs.Ytbklmpekpcneeaa
namespace Go.Proofs.Ytbklmpekpcneeaa
open Go.RowKit
set_option maxRecDepth 100000

theorem splice_cons (L : List Value) (off : Nat) (v : Value) (r : List Value) (h : off + (r.length + 1) ≤ L.length) : splice (L.set off v) (off + 1) r = splice L off (v :: r) := by
  apply List.ext_getElem?
  intro j
  rw [splice_get _ _ _ (by rw [List.length_set]; omega), splice_get _ _ _ (by simp; omega), List.getElem?_set]
  have el : (v :: r).length = r.length + 1 := rfl
  by_cases h1 : j < off
  · rw [if_pos (show j < off + 1 by omega), if_neg (show ¬ off = j by omega), if_pos h1]
  · by_cases h2 : j = off
    · subst h2
      rw [if_pos (show j < j + 1 by omega), if_pos rfl, if_pos (show j < L.length by omega), if_neg (show ¬ j < j by omega), if_pos (show j < j + (v :: r).length by rw [el]; omega)]
      simp
    · by_cases h3 : j < off + 1 + r.length
      · rw [if_neg (show ¬ j < off + 1 by omega), if_pos h3, if_neg h1, if_pos (show j < off + (v :: r).length by rw [el]; omega), show j - off = (j - (off + 1)) + 1 by omega, List.getElem?_cons_succ]
      · rw [if_neg (show ¬ j < off + 1 by omega), if_neg h3, if_neg (show ¬ off = j by omega), if_neg h1, if_neg (show ¬ j < off + (v :: r).length by rw [el]; omega)]

theorem Bk.setCells {g : Nat} {t : TypeId} : ∀ (vs : List Value) (off : Nat) (w : World) (cur : List Value), Bk w g t cur → off + vs.length ≤ cur.length → Bk (w.setCells g off vs) g t (splice cur off vs) ∧ w.grownBy (w.setCells g off vs) (some g)
  | [], off, w, cur, h, _ => by
    refine ⟨?_, World.grownBy.refl w _⟩
    simpa [splice, World.setCells] using h
  | v :: r, off, w, cur, h, hl => by
    rw [World.setCells]
    obtain ⟨h1, h2⟩ := Bk.setCells r (off + 1) _ _ (h.set off v) (by rw [List.length_set]; simp at hl; omega)
    rw [splice_cons _ _ _ _ (by simp at hl; omega)] at h1
    exact ⟨h1, grown_trans grown_set h2⟩

section
variable {P : Program} {w : World} {ops : Array Oper} {rest : List Oper} {o : Oper} {a : Act} {Q : Exit → Act → World → Prop}

theorem run_clear_zero {P : Program} (w : World) (t e ty : TypeId) (ht : P.underlying t = some (.slice e)) (dp : Option Addr) (c : Nat) :
    (Builtin.clear_ #[t] ty #[.slice dp 0 c]).run P w = .ok (.tuple #[]) w := by
  cases dp <;> simp [Builtin.clear_, run_underlying ht]

theorem run_clear_bk (t e ty : TypeId) (z : Value) (ht : P.underlying t = some (.slice e)) (hv : ∀ w, (zeroValue e).run P w = .ok z w) (hz : z.cells = #[z]) (h1 : z.oneCell' = true)
    (dp : Option Addr) (g off n c : Nat) (hdp : 0 < n → dp = some ⟨g, off, none⟩) (cur : List Value) (tc : TypeId) (hg : Bk w g tc cur) (hfit : off + n ≤ cur.length) :
    ∃ w', (Builtin.clear_ #[t] ty #[.slice dp n c]).run P w = .ok (.tuple #[]) w' ∧ Bk w' g tc (splice cur off (List.replicate n z)) ∧ w.grownBy w' (some g) := by
  by_cases h0 : n = 0
  · subst h0
    exact ⟨w, run_clear_zero w t e ty ht dp c, by simpa [splice] using hg, World.grownBy.refl w _⟩
  · rw [hdp (by omega)]
    obtain ⟨q1, q2⟩ := Bk.setCells (List.replicate n z) off w cur hg (by simpa using hfit)
    exact ⟨_, Lib.run_clear_slice (P := P) w t e ty z ht hv hz h1 g off n c (by omega) (fun j hj => by rw [hg.cell, List.getElem?_eq_getElem (by omega)]; rfl) (fun j _ => hg.frozen _), q1, q2⟩

theorem wp_clear_bk {K : Act → World → Prop} (x : Operand) (t : TypeId) (ho : o.op = .call { callee := .builtin .clear, args := #[x], argTypes := #[t] }) (e : TypeId) (z : Value) (ht : P.underlying t = some (.slice e)) (hv : ∀ w, (zeroValue e).run P w = .ok z w) (hz : z.cells = #[z]) (h1 : z.oneCell' = true)
    (dp : Option Addr) (g off n c : Nat) (hx : a.eval x = .slice dp n c) (hdp : 0 < n → dp = some ⟨g, off, none⟩) (cur : List Value) (tc : TypeId) (hg : Bk w g tc cur) (hfit : off + n ≤ cur.length)
    (h : ∀ w', Bk w' g tc (splice cur off (List.replicate n z)) → w.grownBy w' (some g) → K (a.put o.dst (.tuple #[])) w') : o.wp P a w K Q := by
  obtain ⟨w', hrun, q1, q2⟩ := run_clear_bk (P := P) (w := w) t e o.type z ht hv hz h1 dp g off n c hdp cur tc hg hfit
  unfold Oper.wp
  simp only [execOp, ho, resolve, invoke, builtin, Sem.run_bind, Sem.run_pure, Result.andThen_ok, List.map_toArray, List.map_cons, List.map_nil, hx, hrun]
  exact h w' q1 q2

theorem wpList_clear_bk (hgd : o.guard = none) (x : Operand) (t : TypeId) (ho : o.op = .call { callee := .builtin .clear, args := #[x], argTypes := #[t] }) (e : TypeId) (z : Value) (ht : P.underlying t = some (.slice e)) (hv : ∀ w, (zeroValue e).run P w = .ok z w) (hz : z.cells = #[z]) (h1 : z.oneCell' = true)
    (dp : Option Addr) (g off n c : Nat) (hx : a.eval x = .slice dp n c) (hdp : 0 < n → dp = some ⟨g, off, none⟩) (cur : List Value) (tc : TypeId) (hg : Bk w g tc cur) (hfit : off + n ≤ cur.length)
    (h : ∀ w', Bk w' g tc (splice cur off (List.replicate n z)) → w.grownBy w' (some g) → wpList P ops Q rest (a.put o.dst (.tuple #[])) w') : wpList P ops Q (o :: rest) a w :=
  wpList_plain hgd fun _ hK => wp_clear_bk x t ho e z ht hv hz h1 dp g off n c hx hdp cur tc hg hfit fun w' q1 q2 => hK _ _ (h w' q1 q2)

theorem step_clear_bk {K : Act → World → Prop} {E : Prop} (hgd : o.guard = none) (x : Operand) (t : TypeId) (ho : o.op = .call { callee := .builtin .clear, args := #[x], argTypes := #[t] }) (e : TypeId) (z : Value) (ht : P.underlying t = some (.slice e)) (hv : ∀ w, (zeroValue e).run P w = .ok z w) (hz : z.cells = #[z]) (h1 : z.oneCell' = true)
    (dp : Option Addr) (g off n c : Nat) (hx : a.eval x = .slice dp n c) (hdp : 0 < n → dp = some ⟨g, off, none⟩) (cur : List Value) (tc : TypeId) (hg : Bk w g tc cur) (hfit : off + n ≤ cur.length)
    (h : ∀ w', Bk w' g tc (splice cur off (List.replicate n z)) → w.grownBy w' (some g) → K (a.put o.dst (.tuple #[])) w') :
    if Region.wanted o (yielded ops a.tmps) = true then Oper.wp P o a w K Q else E := by
  have hw : Region.wanted o (yielded ops a.tmps) = true := by simp [Region.wanted, hgd]
  rw [if_pos hw]
  exact wp_clear_bk x t ho e z ht hv hz h1 dp g off n c hx hdp cur tc hg hfit h
end
end Go.Proofs.Ytbklmpekpcneeaa
namespace Go.Proofs.Ytbklmpekpcneeaa
open Go.RowKit
set_option maxRecDepth 100000

/-- A word as a value. -/
def eu (h : UInt64) : Value := .int .u64 (h.toNat : Int)

theorem wrap_u64_in (n : Int) (h0 : 0 ≤ n) (h1 : n < 18446744073709551616) : IntKind.u64.wrap n = n := by
  simp only [IntKind.wrap, IntKind.bits, IntKind.signed, Bool.false_and]
  simp
  omega

theorem wrap_u64 (n : Int) : IntKind.u64.wrap n = n % 18446744073709551616 := by
  simp only [IntKind.wrap, IntKind.bits, IntKind.signed, Bool.false_and]
  simp

theorem xor_u64 (a b : UInt64) : bits BinOp.xor IntKind.u64 (a.toNat : Int) (b.toNat : Int) = ((a ^^^ b).toNat : Int) := by
  have ha := a.toNat_lt
  have hb := b.toNat_lt
  have h1 : (BitVec.ofInt 64 (a.toNat : Int)).toNat = a.toNat := by
    rw [BitVec.ofInt_natCast, BitVec.toNat_ofNat]; exact Nat.mod_eq_of_lt ha
  have h2 : (BitVec.ofInt 64 (b.toNat : Int)).toNat = b.toNat := by
    rw [BitVec.ofInt_natCast, BitVec.toNat_ofNat]; exact Nat.mod_eq_of_lt hb
  show IntKind.u64.wrap ((BitVec.ofInt 64 (a.toNat : Int) ^^^ BitVec.ofInt 64 (b.toNat : Int)).toNat : Int) = _
  rw [BitVec.toNat_xor, h1, h2, UInt64.toNat_xor]
  have := Nat.xor_lt_two_pow ha hb
  exact wrap_u64_in _ (by omega) (by omega)

theorem byte_u64 (c : UInt8) : IntKind.u64.wrap (c.toNat : Int) = (c.toUInt64.toNat : Int) := by
  have := c.toNat_lt
  rw [wrap_u64_in _ (by omega) (by omega)]
  simp

theorem mul_u64 (x : UInt64) : IntKind.u64.wrap ((x.toNat : Int) * 15111065706836454659) = ((x * Sum.fac).toNat : Int) := by
  rw [wrap_u64, UInt64.toNat_mul]
  have : Sum.fac.toNat = 15111065706836454659 := by decide
  rw [this]
  omega

theorem shr_u64 (x : UInt64) : (x.toNat : Int) / (536870912 : Int) = ((x >>> 29).toNat : Int) := by
  rw [UInt64.toNat_shiftRight]
  have : (29 : UInt64).toNat % 64 = 29 := by decide
  rw [this, Nat.shiftRight_eq_div_pow]
  omega

theorem step_val (h : UInt64) (c : UInt8) : bits BinOp.xor IntKind.u64 (IntKind.u64.wrap (bits BinOp.xor IntKind.u64 (h.toNat : Int) (IntKind.u64.wrap (c.toNat : Int)) * 15111065706836454659)) (IntKind.u64.wrap (bits BinOp.xor IntKind.u64 (h.toNat : Int) (IntKind.u64.wrap (c.toNat : Int)) * 15111065706836454659) / 536870912) = ((Sum.step h c).toNat : Int) := by
  rw [byte_u64, xor_u64, mul_u64, shr_u64, xor_u64]
  rfl

set_option maxHeartbeats 400000 in
theorem rstep_w (h : UInt64) (c : UInt8) (w : World) : Calls Try.prog 102 #[.int .u64 (h.toNat : Int), .int .u8 (c.toNat : Int)] w fun e w' => e = .returned (.int .u64 ((Sum.step h c).toNat : Int)) ∧ w = w' := by
  have HS := Lib.hid (step_val h c)
  go_enter Try.func102, Try.ntmps102
  go_wp2
  go_ret
  exact ⟨ret_int HS.out, rfl⟩

theorem sum_take_step (h : UInt64) (xs : List UInt8) (k : Nat) (hk : k < xs.length) : Sum.sum h (xs.take (k + 1)) = Sum.step (Sum.sum h (xs.take k)) xs[k] := by
  rw [List.take_succ_eq_append_getElem hk, Sum.sum_append]
  rfl

set_option maxHeartbeats 800000 in
theorem sfrom_w (h : UInt64) {v : Value} {xs : List UInt8} {w : World} (hv : Sl eb w v xs) : Calls Try.prog 97 #[.int .u64 (h.toNat : Int), v] w fun e w' => e = .returned (.int .u64 ((Sum.sum h xs).toNat : Int)) ∧ w = w' := by
  obtain ⟨a, cap, rfl, hc, hcm, hna, hrd⟩ := hv
  unfold maxLen at hcm
  have HRD := Lib.hid hrd
  clear hrd
  go_enter Try.func97, Try.ntmps97
  go_wp2
  go_loop [0, 6, 7, 10] (fun s0 _ _ i => ∃ k : Nat, i = .int .i64 k ∧ k ≤ xs.length ∧ s0 = .int .u64 ((Sum.sum h (xs.take k)).toNat : Int)) (fun _ _ _ i => xs.length - (intOf i).toNat)
  case atStart => exact ⟨0, rfl, Nat.zero_le _, rfl⟩
  case round =>
    obtain ⟨k, rfl, hk, rfl⟩ := hrel
    by_cases hlt : k < xs.length
    · obtain ⟨b, off, rfl, hb, hcell⟩ := HRD.out.form (by omega)
      have hck : w.cell? ⟨b, off + k, none⟩ = some (.int .u8 (xs[k].toNat : Int)) := hcell k hlt
      have HST := Lib.hid (sum_take_step h xs k hlt)
      clear hcell
      have f1 : (0 : Int) ≤ (k : Int) := by omega
      have f2 : (k : Int) < (xs.length : Int) := by omega
      generalize xs[k] = c at *
      generalize Sum.sum h (xs.take k) = q at *
      have HSV := Lib.hid (step_val q c)
      go_wp2
      go_round
      case rel => exact ⟨k + 1, by go_num, by omega, by rw [HST.out, HSV.out]⟩
      case measure => simp [intOf]; omega
    · obtain rfl : k = xs.length := by omega
      go_wp2
      go_ret
      exact ⟨ret_int (by simp), rfl⟩

set_option maxHeartbeats 800000 in
theorem rfrom_w (h : UInt64) {v : Value} {xs : List UInt8} {w : World} (hv : Sl eb w v xs) : Calls Try.prog 99 #[.int .u64 (h.toNat : Int), v] w fun e w' => e = .returned (.int .u64 ((Sum.sum h xs).toNat : Int)) ∧ w = w' := by
  obtain ⟨a, cap, rfl, hc, hcm, hna, hrd⟩ := hv
  unfold maxLen at hcm
  have HRD := Lib.hid hrd
  clear hrd
  go_enter Try.func99, Try.ntmps99
  go_wp2
  go_loop [0, 5] (fun s0 i => ∃ k : Nat, i = .int .i64 k ∧ k ≤ xs.length ∧ s0 = .int .u64 ((Sum.sum h (xs.take k)).toNat : Int)) (fun _ i => xs.length - (intOf i).toNat)
  case atStart => exact ⟨0, rfl, Nat.zero_le _, rfl⟩
  case round =>
    obtain ⟨k, rfl, hk, rfl⟩ := hrel
    by_cases hlt : k < xs.length
    · obtain ⟨b, off, rfl, hb, hcell⟩ := HRD.out.form (by omega)
      have hck : w.cell? ⟨b, off + k, none⟩ = some (.int .u8 (xs[k].toNat : Int)) := hcell k hlt
      have HST := Lib.hid (sum_take_step h xs k hlt)
      clear hcell
      have f1 : (0 : Int) ≤ (k : Int) := by omega
      have f2 : (k : Int) < (xs.length : Int) := by omega
      generalize xs[k] = c at *
      generalize Sum.sum h (xs.take k) = q at *
      have HSV := Lib.hid (fun W => rstep_w q c W)
      go_wp2_with (go_at_call 102; refine (HSV.out _).mono ?_; rintro e w1 ⟨rfl, rfl⟩)
      go_round
      case rel => exact ⟨k + 1, by go_num, by omega, by rw [HST.out]⟩
      case measure => simp [intOf]; omega
    · obtain rfl : k = xs.length := by omega
      go_wp2
      go_ret
      exact ⟨ret_int (by simp), rfl⟩

theorem byte_val (n : Int) (k : Nat) : IntKind.u64.wrap n / 2 ^ (8 * k) % 256 = ((Sum.byte (Sum.word n) k).toNat : Int) := by
  rw [wrap_u64]
  obtain ⟨m, hm⟩ : ∃ m : Nat, n % 18446744073709551616 = (m : Int) := ⟨(n % 18446744073709551616).toNat, by omega⟩
  have hlt : m < 18446744073709551616 := by omega
  have hw : (Sum.word n).toNat = m := by
    unfold Sum.word
    rw [hm, UInt64.toNat_ofNat', Int.toNat_natCast]
    exact Nat.mod_eq_of_lt hlt
  unfold Sum.byte
  rw [hw, hm]
  have hp : (2 : Int) ^ (8 * k) = ((256 ^ k : Nat) : Int) := by
    rw [Int.pow_mul, Int.natCast_pow]
    rfl
  rw [hp, UInt8.toNat_ofNat']
  generalize 256 ^ k = q
  rfl

theorem eight_succ (n : UInt64) (k : Nat) : (List.range (k + 1)).map (Sum.byte n) = (List.range k).map (Sum.byte n) ++ [Sum.byte n k] := by
  rw [List.range_succ, List.map_append]; rfl

theorem Try.info5' : (Try.prog.info? 5).map (fun i => (i.zero, i.size, i.bytes)) = some (some (.int .u8 0), 1, 1) := by kernel_rfl

set_option maxHeartbeats 800000 in
/-- eight appends to a row that the caller owns. -/
theorem eight_w (base : Nat) (n : Int) {v : Value} {xs : List UInt8} {w : World} (hv : w.ownsRow base 5 1 v xs.length (xs.map eb)) (hB : base ≤ w.heap.size) (hm : xs.length ≤ 1000) :
    Calls Try.prog 98 #[v, .int .i64 n] w fun e w' => ∃ v', e = .returned v' ∧ w'.ownsRow base 5 1 v' (xs.length + 8) ((xs ++ Sum.eight n).map eb) ∧ Below base w w' := by
  obtain ⟨a, c, rfl⟩ := own_slice hv
  obtain ⟨i0, hi, hz0, hz1, hz2⟩ := info_parts Try.info5'
  have HV := Lib.hid hv
  clear hv
  go_enter Try.func98, Try.ntmps98
  go_wp2
  go_loopw [0, 5, 6] (fun s0 _ i wr => ∃ k : Nat, i = .int .i64 k ∧ k ≤ 8 ∧ wr.ownsRow base 5 1 s0 (xs.length + k) ((xs ++ (List.range k).map (Sum.byte (Sum.word n))).map eb) ∧ Below base w wr) (fun _ _ i _ => 8 - (intOf i).toNat)
  case atStart => exact ⟨0, rfl, by omega, by simpa using HV.out, Below.refl _ _⟩
  case round =>
    obtain ⟨k, rfl, hk, ho, hbl⟩ := hrel
    obtain ⟨a1, c1, rfl⟩ := own_slice ho
    by_cases hlt : k < 8
    · have f1 : (k : Int) < 8 := by omega
      have hbv := byte_val n k
      have HES := Lib.hid (eight_succ (Sum.word n) k)
      have hbs := hbl.size
      have hl8 : ((List.range k).map (Sum.byte (Sum.word n))).length = k := by simp
      have HL8 : Hid ((xs ++ (List.range k).map (Sum.byte (Sum.word n))).length = xs.length + k) := by show _ = _; simp
      clear hl8
      generalize Sum.byte (Sum.word n) k = c at *
      generalize hX : xs ++ (List.range k).map (Sum.byte (Sum.word n)) = X at *
      have HX := Lib.hid hX
      clear hX
      go_wp2_with (at_builtin; refine wpList_append_rd eb (fun _ => rfl) rfl (.tmp 9) (.tmp 16) 25 rfl base 5 i0 (.int .u8 0) 1 Try.underlying25 hi hz0 hz1 hz2 rfl (.slice a1 (xs.length + k) c1) (xs.length + k) X rfl (ho.alloc _) (some ⟨wr.heap.size, 0, none⟩) 1 [c] 1 rfl rfl (by simp) (by omega) (Rd.one eb wr c _ _) (by unfold maxLen; omega) (by omega) (by simp; omega) ?_; intro v7 w7 ho7 hs7 hb7)
      go_roundw
      case rel => exact ⟨k + 1, by go_num, by omega, by rw [HES.out, ← List.append_assoc, HX.out]; exact ho7, hbl.trans ((Below.refl base wr).alloc (by omega) _ |>.trans hb7)⟩
      case measure => simp [intOf]; omega
    · obtain rfl : k = 8 := by omega
      go_wp2
      go_ret
      exact ⟨_, rfl, ho, hbl⟩

/-- A word divided by 256 so often. -/
def shiftN (h : UInt64) (k : Nat) : Int := ((h.toNat / 256 ^ k : Nat) : Int)
theorem shiftN_zero (h : UInt64) : shiftN h 0 = (h.toNat : Int) := by unfold shiftN; simp
theorem shiftN_step (h : UInt64) (k : Nat) : IntKind.u64.wrap ((shiftN h k).tdiv 256) = shiftN h (k + 1) := by
  unfold shiftN
  have hl := h.toNat_lt
  have h1 : h.toNat / 256 ^ k ≤ h.toNat := Nat.div_le_self _ _
  rw [Nat.pow_succ, ← Nat.div_div_eq_div_mul]
  generalize h.toNat / 256 ^ k = q at *
  rw [Int.tdiv_eq_ediv_of_nonneg (by omega), wrap_u64_in _ (by omega) (by omega)]
  omega
theorem shiftN_byte (h : UInt64) (k : Nat) : (shiftN h k).tmod 256 % 256 = ((Sum.byte h k).toNat : Int) := by
  unfold shiftN Sum.byte
  generalize h.toNat / 256 ^ k = q
  rw [Int.tmod_eq_emod_of_nonneg (by omega), UInt8.toNat_ofNat']
  omega

set_option maxHeartbeats 800000 in
theorem reight_w (h : UInt64) {w : World} :
    Calls Try.prog 100 #[.int .u64 (h.toNat : Int)] w fun e w' => ∃ v', e = .returned v' ∧ Sl eb w' v' (Sum.eightN h) ∧ Below w.heap.size w w' := by
  obtain ⟨i0, hi, hz0, hz1, hz2⟩ := info_parts Try.info5'
  have HZ := Lib.hid (shiftN_zero h)
  go_enter Try.func100, Try.ntmps100
  go_wp2
  go_loopw [0, 3, 4] (fun s0 s3 i wr => ∃ k : Nat, i = .int .i64 k ∧ k ≤ 8 ∧ s0 = .int .u64 (shiftN h k) ∧ wr.ownsRow w.heap.size 5 1 s3 k (((List.range k).map (Sum.byte h)).map eb) ∧ Below w.heap.size w wr) (fun _ _ i _ => 8 - (intOf i).toNat)
  case atStart => exact ⟨0, rfl, by omega, by rw [HZ.out], World.ownsRow_nil _ _ _ _, Below.refl _ _⟩
  case round =>
    obtain ⟨k, rfl, hk, rfl, ho, hbl⟩ := hrel
    obtain ⟨a1, c1, rfl⟩ := own_slice ho
    by_cases hlt : k < 8
    · have f1 : (k : Int) < 8 := by omega
      have hbv := shiftN_byte h k
      have hsv := shiftN_step h k
      have HES := Lib.hid (eight_succ h k)
      have hbs := hbl.size
      generalize Sum.byte h k = c at *
      generalize shiftN h k = q at *
      generalize (List.range k).map (Sum.byte h) = X at *
      go_wp2_with (at_builtin; refine wpList_append_rd eb (fun _ => rfl) rfl (.tmp 9) (.tmp 13) 25 rfl w.heap.size 5 i0 (.int .u8 0) 1 Try.underlying25 hi hz0 hz1 hz2 rfl (.slice a1 k c1) k X rfl (ho.alloc _) (some ⟨wr.heap.size, 0, none⟩) 1 [c] 1 rfl rfl (by simp) (by omega) (Rd.one eb wr c _ _) (by unfold maxLen; omega) (by omega) (by simp; omega) ?_; intro v7 w7 ho7 hs7 hb7)
      go_roundw
      case rel => exact ⟨k + 1, by go_num, by omega, by first | rfl | (rw [hsv]), by rw [HES.out]; exact ho7, hbl.trans ((Below.refl w.heap.size wr).alloc (by omega) _ |>.trans hb7)⟩
      case measure => simp [intOf]; omega
    · obtain rfl : k = 8 := by omega
      go_wp2
      go_ret
      exact ⟨_, rfl, Sl.ofOwn ho, hbl⟩
end Go.Proofs.Ytbklmpekpcneeaa
namespace Ix

/-- The first k < n with p k, as Go's index; -1 if there is none. -/
def idx (p : Nat → Bool) (n : Nat) : Int := match (List.range n).find? p with | some k => (k : Int) | none => -1

/-- Some k < n has p k. -/
def any (p : Nat → Bool) (n : Nat) : Bool := (List.range n).any p

theorem find_some {p : Nat → Bool} {n k : Nat} (hk : k < n) (hp : p k = true) (hno : ∀ j, j < k → p j = false) : (List.range n).find? p = some k := by
  rw [List.find?_range_eq_some]
  exact ⟨hp, by simpa using hk, fun j hj => by simp [hno j hj]⟩

theorem find_none {p : Nat → Bool} {n : Nat} (hno : ∀ j, j < n → p j = false) : (List.range n).find? p = none := by
  rw [List.find?_eq_none]
  intro j hj
  simp [hno j (by simpa using hj)]

theorem idx_some {p : Nat → Bool} {n k : Nat} (hk : k < n) (hp : p k = true) (hno : ∀ j, j < k → p j = false) : idx p n = k := by
  unfold idx; rw [find_some hk hp hno]

theorem idx_none {p : Nat → Bool} {n : Nat} (hno : ∀ j, j < n → p j = false) : idx p n = -1 := by
  unfold idx; rw [find_none hno]

theorem any_some {p : Nat → Bool} {n k : Nat} (hk : k < n) (hp : p k = true) : any p n = true := by
  unfold any; rw [List.any_eq_true]; exact ⟨k, by simpa using hk, hp⟩

theorem any_none {p : Nat → Bool} {n : Nat} (hno : ∀ j, j < n → p j = false) : any p n = false := by
  unfold any; rw [List.any_eq_false]; intro j hj; simp [hno j (by simpa using hj)]

theorem idx_cases (p : Nat → Bool) (n : Nat) : (idx p n = -1 ∧ any p n = false ∧ ∀ j, j < n → p j = false) ∨ ∃ k, k < n ∧ idx p n = k ∧ any p n = true ∧ p k = true ∧ ∀ j, j < k → p j = false := by
  cases h : (List.range n).find? p with
  | none =>
    have hno : ∀ j, j < n → p j = false := fun j hj => by
      have := List.find?_eq_none.1 h j (by simpa using hj)
      simpa using this
    exact .inl ⟨idx_none hno, any_none hno, hno⟩
  | some k =>
    rw [List.find?_range_eq_some] at h
    obtain ⟨h1, h2, h3⟩ := h
    have hk : k < n := by simpa using h2
    have hno : ∀ j, j < k → p j = false := fun j hj => by simpa using h3 j hj
    exact .inr ⟨k, hk, idx_some hk h1 hno, any_some hk h1, h1, hno⟩

theorem any_iff (p : Nat → Bool) (n : Nat) : any p n = decide (0 ≤ idx p n) := by
  rcases idx_cases p n with ⟨h1, h2, _⟩ | ⟨k, _, h1, h2, _⟩ <;> rw [h1, h2]
  · rfl
  · symm; rw [decide_eq_true_iff]; omega
end Ix
namespace Go.Proofs.Ytbklmpekpcneeaa
open Go.RowKit

set_option maxHeartbeats 400000 in
/-- slices.IndexFunc: `I k` holds of the world before the function is asked of element number k. -/
theorem indexFunc_by {α : Type} (enc : α → Value) (a : Option Addr) (cap : Nat) (xs : List α) (g : Nat) (lb : Array Value) (p : Nat → Bool) (I : Nat → World → Prop) (w : World) (hm : xs.length ≤ 9223372036854775807)
    (eg : ∀ args w, (callFunc g args).run Try.prog w = .ok (.enter g args) w)
    (hr : ∀ k W, I k W → Rd enc W a xs) (h0 : I 0 w)
    (hp : ∀ k W (hk : k < xs.length), I k W → Calls Try.prog g (#[enc xs[k]] ++ lb) W fun e W' => e = .returned (.bool (p k)) ∧ I (k + 1) W') :
    Calls Try.prog 95 #[.slice a xs.length cap, .func (.func g) #[] lb] w fun e w' => e = .returned (.int .i64 (Ix.idx p xs.length)) ∧ ∃ k, k ≤ xs.length ∧ I k w' := by
  have HP := Lib.hid hp
  have HR := Lib.hid hr
  have H0 := Lib.hid h0
  clear hp hr h0
  go_enter Try.func95, Try.ntmps95
  go_wp2
  go_loopw [5, 8] (fun _ i wr => ∃ k : Nat, k ≤ xs.length ∧ i = .int .i64 k ∧ (∀ j, j < k → p j = false) ∧ I k wr) (fun _ i _ => xs.length - (intOf i).toNat)
  case atStart => exact ⟨0, Nat.zero_le _, rfl, fun j hj => absurd hj (Nat.not_lt_zero _), H0.out⟩
  case round =>
    obtain ⟨k, hk, rfl, hno, hI⟩ := hrel
    have HN := Lib.hid hno
    have HI := Lib.hid hI
    clear hno hI
    by_cases hlt : k < xs.length
    · have HC := HP.out k wr hlt HI.out
      obtain ⟨b, off, rfl, hb, hc⟩ := (HR.out k wr HI.out).form (by omega)
      have hck := hc k hlt
      clear hc
      generalize hpv : p k = pv at HC
      have HPV := Lib.hid hpv
      clear hpv
      cases pv with
      | true =>
        go_wp2_with (go_at_fn g; refine HC.mono ?_; rintro e w1 ⟨rfl, h1⟩)
        have H1 := Lib.hid h1
        clear h1
        go_wp2
        go_ret
        have := Ix.idx_some hlt HPV.out HN.out
        exact ⟨ret_int this.symm, k + 1, hlt, H1.out⟩
      | false =>
        go_wp2_with (go_at_fn g; refine HC.mono ?_; rintro e w1 ⟨rfl, h1⟩)
        have H1 := Lib.hid h1
        clear h1
        go_wp2
        go_roundw
        case rel => exact ⟨k + 1, by omega, by go_num, fun j hj => by by_cases e : j = k; { subst e; exact HPV.out }; exact HN.out j (by omega), H1.out⟩
        case measure => simp [intOf]; omega
    · go_wp2
      go_ret
      have h1 := Ix.idx_none (p := p) (n := xs.length) fun i hi => HN.out i (by omega)
      exact ⟨ret_int h1.symm, k, hk, HI.out⟩

set_option maxHeartbeats 400000 in
theorem containsFunc_by {α : Type} (enc : α → Value) (a : Option Addr) (cap : Nat) (xs : List α) (g : Nat) (lb : Array Value) (p : Nat → Bool) (I : Nat → World → Prop) (w : World) (hm : xs.length ≤ 9223372036854775807)
    (eg : ∀ args w, (callFunc g args).run Try.prog w = .ok (.enter g args) w)
    (hr : ∀ k W, I k W → Rd enc W a xs) (h0 : I 0 w)
    (hp : ∀ k W (hk : k < xs.length), I k W → Calls Try.prog g (#[enc xs[k]] ++ lb) W fun e W' => e = .returned (.bool (p k)) ∧ I (k + 1) W') :
    Calls Try.prog 86 #[.slice a xs.length cap, .func (.func g) #[] lb] w fun e w' => e = .returned (.bool (Ix.any p xs.length)) ∧ ∃ k, k ≤ xs.length ∧ I k w' := by
  have HX := Lib.hid (indexFunc_by enc a cap xs g lb p I w hm eg hr h0 hp)
  have HA := Lib.hid (Ix.any_iff p xs.length)
  clear hr h0 hp
  generalize Ix.idx p xs.length = r at *
  go_enter Try.func86, Try.ntmps86
  go_wp2_with (go_at_call 95; refine HX.out.mono ?_; rintro e w' ⟨rfl, h1⟩; have H1 := Lib.hid h1; clear h1)
  go_ret
  exact ⟨ret_bool HA.out.symm, H1.out⟩
end Go.Proofs.Ytbklmpekpcneeaa
namespace Go.Proofs.Ytbklmpekpcneeaa
open Go.RowKit Go.ChangeShapes Go.WideShapes

def Arg (w : World) (t : TypeId) (cs : List Value) : Prop :=
  ∃ (H : Type) (enc : TypeId × Value → H) (fuel : Nat) (x : DataW H × List MemPlace), DataW.trod enc Try.prog w 0 (fun _ => true) true fuel t cs = some x

theorem Arg.of {H : Type} {enc : TypeId × Value → H} {w : World} {t : TypeId} {v : Value} {d : DataW H} {ps : List MemPlace} (h : DataW.Trod enc Try.prog w 0 (fun _ => true) true t v d ps) : Arg w t v.cells.toList := by
  obtain ⟨fuel, hf⟩ := h
  exact ⟨H, enc, fuel, _, hf⟩

section
variable {w : World} {t : TypeId} {cs : List Value}
theorem Arg.int {k : IntKind} (ht : Try.prog.underlying t = some (.int k)) (h : Arg w t cs) : ∃ n, cs = [.int k n] ∧ (Lit.int k n).wf = true := by
  obtain ⟨H, enc, fuel, x, h⟩ := h
  obtain ⟨n, h1, _, h2⟩ := DataW.trod_int ht h
  exact ⟨n, h1, h2⟩

theorem Arg.bool (ht : Try.prog.underlying t = some .bool) (h : Arg w t cs) : ∃ b, cs = [.bool b] := by
  obtain ⟨H, enc, fuel, x, h⟩ := h
  obtain ⟨n, h1, _⟩ := DataW.trod_bool ht h
  exact ⟨n, h1⟩

theorem Arg.struct {fs : Array Field} (ht : Try.prog.underlying t = some (.struct fs)) (h : Arg w t cs) :
    cs.length = Try.prog.cellsOf t ∧ ∀ (i : Nat) (f : Field), fs[i]? = some f → Arg w f.type ((cs.drop f.offset).take (Try.prog.cellsOf f.type)) := by
  obtain ⟨H, enc, fuel, x, h⟩ := h
  obtain ⟨xs, n, _, _, h1, h2, h3⟩ := DataW.trod_struct ht h
  refine ⟨h1, fun i f hi => ?_⟩
  have hlt : i < xs.length := by rw [h2]; exact (Array.getElem?_eq_some_iff.1 hi).1
  exact ⟨H, enc, n, _, (h3 i f hi).trans (List.getElem?_eq_getElem hlt)⟩

theorem Arg.array {n : Nat} {e : TypeId} (ht : Try.prog.underlying t = some (.array n e)) (h : Arg w t cs) :
    cs.length = Try.prog.cellsOf t ∧ ∀ i, i < n → Arg w e ((cs.drop (i * Try.prog.cellsOf e)).take (Try.prog.cellsOf e)) := by
  obtain ⟨H, enc, fuel, x, h⟩ := h
  obtain ⟨xs, m, _, _, h1, h2, h3⟩ := DataW.trod_array ht h
  refine ⟨h1, fun i hi => ?_⟩
  exact ⟨H, enc, m, _, (h3 i hi).trans (List.getElem?_eq_getElem (by omega))⟩

/-- A slice of elements of any number of cells. -/
theorem Arg.slice {e : TypeId} (ht : Try.prog.underlying t = some (.slice e)) (h : Arg w t cs) :
    cs = [.slice none 0 0] ∨ ∃ (a : Addr) (len cap : Nat), cs = [.slice (some a) len cap] ∧ len ≤ cap ∧ cap ≤ maxLen ∧
      ∀ i, i < cap → ∃ cs' : List Value, cs'.length = Try.prog.cellsOf e ∧ (∀ j, j < Try.prog.cellsOf e → w.cell? ((a.add (i * Try.prog.cellsOf e)).add j) = cs'[j]?) ∧ Arg w e cs' := by
  obtain ⟨H, enc, fuel, x, h⟩ := h
  rcases Go.Deep.open_slice ht h with ⟨h0, _⟩ | ⟨a, len, cap, m, n, D, Pl, hcs, _, hl, hm, hmm, _, hi⟩
  · exact .inl h0
  · simp only [if_true] at hmm
    refine .inr ⟨a, len, cap, hcs, hl, hm, fun i hic => ?_⟩
    obtain ⟨cs', h1, h2⟩ := hi i (by omega)
    obtain ⟨_, h3, h4⟩ := World.cells?_some h1
    exact ⟨cs', h3, h4, H, enc, n, _, h2⟩
end

theorem addr_none {w : World} {a : Addr} {v : Value} (h : w.cell? a = some v) : a.spot = none := World.cell?_spot h

theorem Arg.bytes {w : World} {t e : TypeId} {cs : List Value} (ht : Try.prog.underlying t = some (.slice e)) (he : Try.prog.underlying e = some (.int .u8)) (hc : Try.prog.cellsOf e = 1) (h : Arg w t cs) : ∃ v xs, cs = [v] ∧ Sl eb w v xs := by
  obtain ⟨H, enc, fuel, x, h⟩ := h
  rcases open_ints ht he hc h with ⟨hcs, _⟩ | ⟨x, l, c, zs, hcs, _, hl, hm, hz, _, hcell, hwz⟩
  · exact ⟨_, [], hcs, Sl.nil _ _⟩
  · have hz' : zs.length = c := by simpa using hz
    obtain ⟨xs, h1, h2, h3⟩ := Sl.ofCells (k := .u8) (w := w) (a := some x) (len := l) (cap := c) (zs := zs) (.inr ⟨x, rfl, hl, hm, hz', hcell, hwz⟩)
    refine ⟨_, xs.map fun n => UInt8.ofNat n.toNat, hcs, ?_⟩
    obtain ⟨a, cap, q1, q2, q3, q4, q5⟩ := h1
    refine ⟨a, cap, by simpa using q1, by simpa using q2, q3, q4, fun i hi => ?_⟩
    have hi' : i < xs.length := by simpa using hi
    obtain ⟨b, off, ha, hlt, hcc⟩ := q5 i hi'
    have hb := h3 xs[i] (List.getElem_mem hi')
    simp [Lit.wf, IntKind.min, IntKind.max, IntKind.signed, IntKind.bits] at hb
    refine ⟨b, off, ha, hlt, ?_⟩
    rw [hcc, List.getElem_map]
    unfold eb
    rw [UInt8.toNat_ofNat', Nat.mod_eq_of_lt (by omega), Int.toNat_of_nonneg (by omega)]

/-- A slice of one-cell elements, each of which reads as something. -/
theorem Arg.rows {α : Type} {R : Value → α → Prop} {w : World} {t e : TypeId} {cs : List Value} (ht : Try.prog.underlying t = some (.slice e)) (hc : Try.prog.cellsOf e = 1) (hR : ∀ cs', Arg w e cs' → ∃ v x, cs' = [v] ∧ R v x) (h : Arg w t cs) :
    ∃ (v : Value) (vs : List Value) (xs : List α), cs = [v] ∧ Sl id w v vs ∧ vs.length = xs.length ∧ ∀ i (h : i < vs.length) (h' : i < xs.length), R vs[i] xs[i] := by
  rcases h.slice ht with h0 | ⟨a, len, cap, hcs, hl, hm, hel⟩
  · exact ⟨_, [], [], h0, Sl.nil _ _, rfl, fun i h => absurd h (by simp)⟩
  · rw [hc] at hel
    have hex : ∀ n, n ≤ len → ∃ (vs : List Value) (xs : List α), vs.length = n ∧ xs.length = n ∧ (∀ i (h : i < vs.length), w.cell? (a.add i) = some vs[i]) ∧ ∀ i (h : i < vs.length) (h' : i < xs.length), R vs[i] xs[i] := by
      intro n
      induction n with
      | zero => intro _; exact ⟨[], [], rfl, rfl, fun i h => absurd h (by simp), fun i h => absurd h (by simp)⟩
      | succ n ih =>
        intro hn
        obtain ⟨vs, xs, e1, e2, e3, e4⟩ := ih (by omega)
        obtain ⟨cs', g1, g2, g3⟩ := hel n (by omega)
        obtain ⟨v, x, rfl, hr⟩ := hR cs' g3
        have g4 := g2 0 (by omega)
        refine ⟨vs ++ [v], xs ++ [x], by simp [e1], by simp [e2], fun i hi => ?_, fun i hi hi' => ?_⟩
        · by_cases e : i < vs.length
          · rw [List.getElem_append_left e]; exact e3 i e
          · have : i = n := by simp at hi; omega
            subst this
            have hv : (vs ++ [v])[i] = v := by simp [← e1]
            rw [hv]
            simpa [Addr.add] using g4
        · by_cases e : i < vs.length
          · rw [List.getElem_append_left e, List.getElem_append_left (by omega)]; exact e4 i e _
          · have : i = n := by simp at hi; omega
            subst this
            have hv : (vs ++ [v])[i] = v := by simp [← e1]
            have hx : (xs ++ [x])[i] = x := by simp [← e2]
            rw [hv, hx]; exact hr
    obtain ⟨vs, xs, e1, e2, e3, e4⟩ := hex len (Nat.le_refl _)
    refine ⟨_, vs, xs, hcs, ?_, by omega, e4⟩
    by_cases h0 : 0 < len
    · have hs := addr_none (e3 0 (by omega))
      have hs' : a.spot = none := by simpa [Addr.add] using hs
      obtain ⟨b, off, spot⟩ := a
      subst hs'
      have hb : b < w.heap.size := by
        have := World.block_lt_of_cell? w _ (e3 0 (by omega))
        simpa [Addr.add] using this
      refine ⟨some ⟨b, off, none⟩, cap, by rw [e1], by omega, hm, by simp, fun i hi => ⟨b, off, rfl, hb, ?_⟩⟩
      have h3 := e3 i hi
      have ha : (⟨b, off, none⟩ : Addr).add i = ⟨b, off + i, none⟩ := by by_cases h0 : i = 0 <;> simp [Addr.add, h0]
      rw [ha] at h3
      exact h3
    · have : len = 0 := by omega
      subst this
      obtain rfl : vs = [] := List.eq_nil_of_length_eq_zero e1
      exact ⟨some a, cap, rfl, by simp, hm, by simp, Rd.nil _ _ _⟩

theorem wf_i64 {n : Int} (h : (Lit.int .i64 n).wf = true) : -9223372036854775808 ≤ n ∧ n ≤ 9223372036854775807 := by
  simpa [Lit.wf, IntKind.min, IntKind.max, IntKind.signed, IntKind.bits] using h

theorem wf_u8 {n : Int} (h : (Lit.int .u8 n).wf = true) : 0 ≤ n ∧ n ≤ 255 := by
  simpa [Lit.wf, IntKind.min, IntKind.max, IntKind.signed, IntKind.bits] using h

/-- A value whose cells are one cell that is no aggregate. -/
theorem cells_slice {P : Program} {w : World} {r : Reach} {b : Nat} {t e : TypeId} {v u : Value} (ht : P.underlying t = some (.slice e)) (hv : Value.okWide P w r b t v) (h : v.cells.toList = [u]) : v = u := by
  obtain ⟨a, n, c, rfl⟩ := okWide_slice ht hv
  simpa [Value.cells] using h

theorem cells_int {P : Program} {w : World} {r : Reach} {b : Nat} {t : TypeId} {k : IntKind} {v u : Value} (ht : P.underlying t = some (.int k)) (hv : Value.okWide P w r b t v) (h : v.cells.toList = [u]) : v = u := by
  obtain ⟨n, rfl⟩ := okWide_int ht hv
  simpa [Value.cells] using h

theorem cells_bool {P : Program} {w : World} {r : Reach} {b : Nat} {t : TypeId} {v u : Value} (ht : P.underlying t = some .bool) (hv : Value.okWide P w r b t v) (h : v.cells.toList = [u]) : v = u := by
  obtain ⟨n, rfl⟩ := okWide_bool ht hv
  simpa [Value.cells] using h

theorem cells_struct {P : Program} {w : World} {r : Reach} {b : Nat} {t : TypeId} {fs : Array Field} {v : Value} {l : List Value} (ht : P.underlying t = some (.struct fs)) (hv : Value.okWide P w r b t v) (h : v.cells.toList = l) : v = .agg l.toArray := by
  obtain ⟨cs, rfl, _⟩ := okWide_struct ht hv
  subst h
  rfl
end Go.Proofs.Ytbklmpekpcneeaa
namespace Go.Proofs.Ytbklmpekpcneeaa
open Go.RowKit Go.ChangeShapes Go.WideShapes

theorem Arg.multi {α : Type} {s : Nat} {enc : α → List Value} {R : α → Prop} {w : World} {t e : TypeId} {cs : List Value} (ht : Try.prog.underlying t = some (.slice e)) (hc : Try.prog.cellsOf e = s) (hs0 : 0 < s)
    (hR : ∀ cs', Arg w e cs' → ∃ x, cs' = enc x ∧ R x) (h : Arg w t cs) : ∃ v xs, cs = [v] ∧ Sm s enc w v xs ∧ ∀ x ∈ xs, R x := by
  rcases h.slice ht with h0 | ⟨a, len, cap, hcs, hl, hm, hel⟩
  · exact ⟨_, [], h0, Sm.nil _, by simp⟩
  · rw [hc] at hel
    have hex : ∀ n, n ≤ len → ∃ xs : List α, xs.length = n ∧ (∀ x ∈ xs, R x) ∧ ∀ i (h : i < xs.length) j, j < s → w.cell? ((a.add (i * s)).add j) = (enc xs[i])[j]? ∧ ∃ v, w.cell? ((a.add (i * s)).add j) = some v := by
      intro n
      induction n with
      | zero => intro _; exact ⟨[], rfl, by simp, fun i h => absurd h (by simp)⟩
      | succ n ih =>
        intro hn
        obtain ⟨xs, e1, e2, e3⟩ := ih (by omega)
        obtain ⟨cs', g1, g2, g3⟩ := hel n (by omega)
        obtain ⟨x, rfl, hr⟩ := hR cs' g3
        refine ⟨xs ++ [x], by simp [e1], ?_, fun i hi j hj => ?_⟩
        · intro y hy
          rcases List.mem_append.1 hy with hy | hy
          · exact e2 y hy
          · simp at hy; subst hy; exact hr
        · by_cases hi' : i < xs.length
          · rw [List.getElem_append_left hi']; exact e3 i hi' j hj
          · have : i = n := by simp at hi; omega
            subst this
            have hx : (xs ++ [x])[i] = x := by simp [← e1]
            rw [hx]
            exact ⟨g2 j hj, _, (g2 j hj).trans (List.getElem?_eq_getElem (by omega))⟩
    obtain ⟨xs, e1, e2, e3⟩ := hex len (Nat.le_refl _)
    refine ⟨_, xs, hcs, ?_, e2⟩
    by_cases h0 : 0 < len
    · obtain ⟨_, v0, hv0⟩ := e3 0 (by omega) 0 hs0
      have ha0 : (a.add (0 * s)).add 0 = a := by simp [Addr.add]
      rw [ha0] at hv0
      have hs := addr_none hv0
      have hb := World.block_lt_of_cell? w _ hv0
      obtain ⟨b, off, spot⟩ := a
      simp only at hs hb
      subst hs
      refine ⟨some ⟨b, off, none⟩, cap, by rw [e1], by omega, hm, by simp, fun i hi => ⟨b, off, rfl, hb, fun j hj => ?_⟩⟩
      have h3 := (e3 i hi j hj).1
      have ha : ((⟨b, off, none⟩ : Addr).add (i * s)).add j = ⟨b, off + i * s + j, none⟩ := by
        by_cases h0 : i * s = 0 <;> by_cases h1 : j = 0 <;> simp [Addr.add, h0, h1]
      rw [ha] at h3
      exact h3
    · have : len = 0 := by omega
      subst this
      obtain rfl : xs = [] := List.eq_nil_of_length_eq_zero e1
      exact ⟨some a, cap, rfl, by simp, hm, by simp, Rm.nil _ _⟩
end Go.Proofs.Ytbklmpekpcneeaa
