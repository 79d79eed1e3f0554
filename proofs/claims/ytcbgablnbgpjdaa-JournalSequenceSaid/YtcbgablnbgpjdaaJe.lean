/-
  The walks of slices.Backward and of put: a range over a function that reads what the round writes.
-/
import Derived.RangeFuncNested
import Derived.RangeFuncBound
import Derived.RangeFuncCalls
import Derived.RangeFuncLeaves
import Derived.RangeFuncBox
import Derived.Maps.AppendAt
import Derived.Shelf.Abstract
import Derived.Shelf.RegionOpen
import Derived.WalkKit
import Derived.OwnWalkIn
import Derived.TacticsInMore
import Derived.LoopNIn
import Derived.LoopIn
import Derived.Sort.QuietIn
import Derived.Test.YtcbgablnbgpjdaaJd
namespace Go.Proofs.Ytcbgablnbgpjdaa
open Go.RowKit Go.Shelf
attribute [local go_sem] Oper.semAt_some

/-- The places from the last one down. -/
def down (m k : Nat) : List Nat := (List.range k).map fun t => m - 1 - t
theorem down_succ (m k : Nat) : down m (k + 1) = down m k ++ [m - 1 - k] := by simp [down, List.range_succ]
/-- A place and whatever lies there. -/
abbrev Bx2 (m : Nat) := { i : Nat // i < m } × Value
def bx2 {m : Nat} (x : Bx2 m) : Array Value := #[.int .i64 (x.1.1 : Int), x.2]
def fsts {m : Nat} (l : List (Bx2 m)) : List Nat := l.map fun x => x.1.1
theorem fsts_snoc {m : Nat} (l : List (Bx2 m)) (x : Bx2 m) : fsts (l ++ [x]) = fsts l ++ [x.1.1] := by simp [fsts]

/-- What a round keeps: the box of the slice, and that the row's cells are there. -/
def KpB (Bs g : Nat) (W W' : World) : Prop := W'.cell? ⟨Bs, 0, none⟩ = W.cell? ⟨Bs, 0, none⟩ ∧ ∀ j v, W.cell? ⟨g, j, none⟩ = some v → ∃ v', W'.cell? ⟨g, j, none⟩ = some v'
theorem kpB_t {Bs g : Nat} {A B C : World} (h : KpB Bs g A B) (k : KpB Bs g B C) : KpB Bs g A C := ⟨k.1.trans h.1, fun j v hv => by
  obtain ⟨v', h'⟩ := h.2 j v hv
  exact k.2 j v' h'⟩
theorem kpB_b {Bs g : Nat} {w : World} (h1 : Bs < w.heap.size) (h2 : g < w.heap.size) (W : World) (l : Nat) (o o' : Obj) (hl : w.heap.size ≤ l) (_ : W.heap[l]? = some o) (_ : o.isCells = false) (_ : o.isWalk = false) : KpB Bs g W (W.putObj l o') :=
  ⟨World.cell?_of_block (a := ⟨Bs, 0, none⟩) (World.putObj_heap_other (show Bs ≠ l by omega)), fun j v hv => ⟨v, by rw [World.cell?_of_block (a := ⟨g, j, none⟩) (World.putObj_heap_other (show g ≠ l by omega))]; exact hv⟩⟩

set_option maxRecDepth 100000 in
set_option maxHeartbeats 2000000 in
theorem backward1_in (n l Bs g off m cap : Nat) (hm : m ≤ 1000) (hmc : m ≤ cap) (hcm : cap ≤ maxLen) (J Jx : List (Bx2 m) → World → Prop) (W : World)
    (hY : ∀ pre x W, J pre W → pre.length < m → YieldAt Fence.wide (n - 1) Try.prog l (bx2 x) W fun e W' =>
      (e = .returned (.bool true) ∧ J (pre ++ [x]) W' ∧ KpB Bs g W W') ∨ (e = .returned (.bool false) ∧ Jx (pre ++ [x]) W'))
    (hBs : W.cell? ⟨Bs, 0, none⟩ = some (.slice (some ⟨g, off, none⟩) m cap)) (hg : ∀ j, j < m → ∃ v, W.cell? ⟨g, off + j, none⟩ = some v) (h0 : J [] W) :
    CallsIn Fence.wide n Try.prog 58 #[.func (.yield l) #[] #[], .pointer (some ⟨Bs, 0, none⟩)] W fun e W' => (∃ v, e = .returned v) ∧
      ((∃ ys, fsts ys = down m m ∧ J ys W') ∨ (∃ pre, True ∧ Jx pre W')) := by
  unfold maxLen at hcm
  refine callsIn_of_wp Try.func58 rfl trivial ?_ rfl
  simp only [Try.ntmps58, List.size_toArray, List.length_cons, List.length_nil, Nat.reduceAdd, Nat.reduceSub, Array.replicate_succ, Array.replicate_zero, List.push_toArray, List.append_toArray, List.nil_append, List.cons_append]
  gi_wp2
  gi_loopw [3] (fun i wr => ∃ (k : Nat) (ys : List (Bx2 m)), k ≤ m ∧ i = .int .i64 ((m : Int) - 1 - (k : Int)) ∧ fsts ys = down m k ∧ J ys wr ∧ KpB Bs g W wr)
    (fun i _ => (intOf i + 1).toNat)
  case atStart => exact ⟨0, [], Nat.zero_le _, by go_num, rfl, h0, rfl, fun j v h => ⟨v, h⟩⟩
  case round =>
    obtain ⟨k, ys, hk, rfl, hys, hJs, hnx⟩ := hrel
    have hc1 := hnx.1.trans hBs
    by_cases hlt : k < m
    · obtain ⟨q, hq⟩ : ∃ q : Nat, (m : Int) - 1 - (k : Int) = (q : Int) := ⟨m - 1 - k, by omega⟩
      have hqm : q < m := by omega
      have hqk : m - 1 - k = q := by omega
      obtain ⟨v0, hv0⟩ := hg q hqm
      obtain ⟨v, hv⟩ := hnx.2 _ _ hv0
      have hlen : ys.length = k := by
        have := congrArg List.length hys
        simpa [fsts, down] using this
      obtain ⟨fn, tmps, assign, body, hy, hR⟩ := hY _ (⟨q, hqm⟩, v) wr hJs (by rw [hlen]; exact hlt)
      have HQ := Lib.hid hq
      have HQK := Lib.hid hqk
      have HYS := Lib.hid hys
      simp only [bx2] at hy
      have q0 : (0 : Int) ≤ (q : Int) := by omega
      have q1 : (q : Int) < (m : Int) := by omega
      rw [hq]
      clear hq hqk hys hlen hv0
      gi_wp2
      refine ⟨fun h => absurd h (by simp [Fence.wide]), hR.mono ?_⟩
      rintro e W3 (⟨rfl, hJ3, hk3⟩ | ⟨rfl, hJx3⟩)
      · have hn3 := kpB_t hnx hk3
        have hc13 := hn3.1.trans hBs
        gi_wp2
        go_roundw
        case rel => exact ⟨k + 1, ys ++ [(⟨q, hqm⟩, v)], by omega, by have := HQ.out; go_num, by rw [fsts_snoc, down_succ, HYS.out, HQK.out], hJ3, hn3⟩
        case measure => simp [intOf]
      · gi_wp2
        refine bodyPost_ret (results_none rfl _ _ _) rfl ?_
        exact ⟨⟨_, rfl⟩, .inr ⟨_, trivial, hJx3⟩⟩
    · obtain rfl : k = m := by omega
      rw [show (k : Int) - 1 - (k : Int) = -1 by omega]
      gi_wp2
      go_end0
      exact ⟨⟨_, rfl⟩, .inl ⟨ys, hys, hJs⟩⟩

/-- The row behind some rounds. -/
def rowOf {m : Nat} (off : Nat) (n : UInt64) (cur : List Value) (l : List (Bx2 m)) : Nat × List Value := l.foldl (fun s x => (s.1 + 1, s.2.set (off + x.1.1) (eb (Sum.byte n s.1)))) (0, cur)
theorem rowOf_snoc {m : Nat} (off : Nat) (n : UInt64) (cur : List Value) (l : List (Bx2 m)) (x : Bx2 m) : rowOf off n cur (l ++ [x]) = ((rowOf off n cur l).1 + 1, (rowOf off n cur l).2.set (off + x.1.1) (eb (Sum.byte n (rowOf off n cur l).1))) := by
  unfold rowOf
  rw [List.foldl_append]
  rfl
theorem snoc_ind {α : Type} {P : List α → Prop} (h0 : P []) (h1 : ∀ l x, P l → P (l ++ [x])) (l : List α) : P l := by
  have h : ∀ r : List α, P r.reverse := fun r => by
    induction r with
    | nil => exact h0
    | cons x r ih => rw [List.reverse_cons]; exact h1 _ _ ih
  have h' := h l.reverse
  rwa [List.reverse_reverse] at h'
theorem rowOf_len {m : Nat} (off : Nat) (n : UInt64) (cur : List Value) (l : List (Bx2 m)) : (rowOf off n cur l).1 = l.length ∧ (rowOf off n cur l).2.length = cur.length := by
  induction l using snoc_ind with
  | h0 => exact ⟨rfl, rfl⟩
  | h1 l x ih => rw [rowOf_snoc]; simp [ih]
theorem down_len (m k : Nat) : (down m k).length = k := by simp [down]
theorem rowOf_get {m : Nat} (off : Nat) (n : UInt64) (cur : List Value) (hc : off + m ≤ cur.length) (l : List (Bx2 m)) : ∀ k, fsts l = down m k → k ≤ m → ∀ j, (rowOf off n cur l).2[j]? = if off + (m - k) ≤ j ∧ j < off + m then some (eb (Sum.byte n (m - 1 - (j - off)))) else cur[j]? := by
  induction l using snoc_ind with
  | h0 =>
    intro k hk hkm j
    have : k = 0 := by
      have := congrArg List.length hk
      rw [down_len] at this
      simpa [fsts] using this.symm
    subst this
    rw [if_neg (by omega)]
    rfl
  | h1 l x ih =>
    intro k hk hkm j
    have hl : l.length + 1 = k := by
      have := congrArg List.length hk
      rw [down_len] at this
      simpa [fsts] using this
    subst hl
    rw [fsts_snoc, down_succ] at hk
    obtain ⟨e1, e2⟩ := List.append_inj' hk rfl
    have e3 : x.1.1 = m - 1 - l.length := by simpa using e2
    rw [rowOf_snoc]
    simp only
    rw [(rowOf_len off n cur l).1, List.getElem?_set, e3, ih l.length e1 (by omega) j, (rowOf_len off n cur l).2]
    by_cases h : off + (m - 1 - l.length) = j
    · rw [if_pos h, if_pos (by omega), if_pos (by omega), show m - 1 - (j - off) = l.length by omega]
    · rw [if_neg h]
      by_cases h2 : off + (m - l.length) ≤ j ∧ j < off + m
      · rw [if_pos h2, if_pos (by omega)]
      · rw [if_neg h2, if_neg (by omega)]
theorem rowOf_all {m : Nat} (off : Nat) (n : UInt64) (cur : List Value) (hc : off + m ≤ cur.length) (l : List (Bx2 m)) (h : fsts l = down m m) : (rowOf off n cur l).2 = splice cur off ((Jr.num n m).map eb) := by
  apply List.ext_getElem?
  intro j
  have hl : ((Jr.num n m).map eb).length = m := by rw [List.length_map, Jr.num_len]
  rw [rowOf_get off n cur hc l m h (Nat.le_refl _) j, splice_get _ _ _ (by rw [hl]; exact hc), hl]
  by_cases h1 : j < off
  · rw [if_neg (by omega), if_pos h1]
  · rw [if_neg h1]
    by_cases h2 : j < off + m
    · rw [if_pos (by omega), if_pos h2, List.getElem?_map, Jr.num_get n m (j - off) (by omega)]
      rfl
    · rw [if_neg (by omega), if_neg h2]

theorem shiftP (n : UInt64) (k : Nat) : (shiftN n k) / 256 = shiftN n (k + 1) := by
  unfold shiftN
  rw [Nat.pow_succ, ← Nat.div_div_eq_div_mul]
  generalize n.toNat / 256 ^ k = q
  omega
theorem byteP (n : UInt64) (k : Nat) : (shiftN n k) % 256 = ((Sum.byte n k).toNat : Int) := by
  unfold shiftN Sum.byte
  generalize n.toNat / 256 ^ k = q
  rw [UInt8.toNat_ofNat']
  omega

theorem own_bk {β : Type} {B b : Nat} {T : TypeId} (f : β → List Value) (hb : b < B) : OwnFrom B (fun (s : β) W => Bk W b T (f s)) := fun s W W' row hs hg hr =>
  hs.keep (hg.block b hs.lt (fun e => by have := (hr b e.symm).1; omega))
theorem own_grown {β : Type} {B g : Nat} {w : World} (hB : w.heap.size ≤ B) : OwnFrom B (fun (_ : β) W => w.grownBy W (some g)) := fun _ W W' row hs hg hr =>
  ⟨hg.os.trans hs.os, hg.tape.trans hs.tape, hg.output.trans hs.output, Nat.le_trans hs.size hg.size, fun i hi hne => (hg.block i (Nat.lt_of_lt_of_le hi hs.size) (fun e => by have := (hr i e.symm).1; omega)).trans (hs.block i hi hne)⟩

theorem grown_new {w W : World} {g b i : Nat} {u : Value} (h : w.grownBy W (some g)) (hb : w.heap.size ≤ b) : w.grownBy (W.setCell ⟨b, i, none⟩ u) (some g) :=
  ⟨h.os, h.tape, h.output, by simpa [World.setCell] using h.size, fun k hk hne => (Below.heap_setCell _ _ _ _ (show k ≠ b by omega)).trans (h.block k hk hne)⟩
theorem grown_own {w W : World} {g i : Nat} {u : Value} (h : w.grownBy W (some g)) : w.grownBy (W.setCell ⟨g, i, none⟩ u) (some g) :=
  ⟨h.os, h.tape, h.output, by simpa [World.setCell] using h.size, fun k hk hne => (Below.heap_setCell _ _ _ _ (show k ≠ g from fun e => hne (by rw [e]))).trans (h.block k hk hne)⟩

theorem cell_far {W : World} {b c i j : Nat} {u : Value} (h : c ≠ b) : (W.setCell ⟨b, i, none⟩ u).cell? ⟨c, j, none⟩ = W.cell? ⟨c, j, none⟩ :=
  World.cell?_of_block (a := ⟨c, j, none⟩) (Below.heap_setCell W ⟨b, i, none⟩ u c h)

set_option maxHeartbeats 1000000 in
theorem backward_in (n : Nat) (a : Option Addr) (len cap : Nat) (w : World) :
    CallsIn Fence.wide n Try.prog 54 #[.slice a len cap] w fun e w' => e = .returned (.func (.func 58) #[] #[.pointer (some ⟨w.heap.size, 0, none⟩)]) ∧ w' = w.alloc (.cells #[.slice a len cap] 29 (0, 0)) := by
  refine callsIn_of_wp Try.func54 rfl trivial ?_ rfl
  simp only [Try.ntmps54, List.size_toArray, List.length_cons, List.length_nil, Nat.reduceAdd, Nat.reduceSub, Array.replicate_succ, Array.replicate_zero, List.push_toArray, List.append_toArray, List.nil_append, List.cons_append]
  gi_wp2
  go_ret
  exact ⟨rfl, rfl⟩

theorem backward_stops (n : Nat) (Bs g off m cap : Nat) (hm : m ≤ 1000) (hmc : m ≤ cap) (hcm : cap ≤ maxLen) (w : World) (hB : Bs < w.heap.size) (hgw : g < w.heap.size)
    (hBs : w.cell? ⟨Bs, 0, none⟩ = some (.slice (some ⟨g, off, none⟩) m cap)) (hg : ∀ j, j < m → ∃ v, w.cell? ⟨g, off + j, none⟩ = some v) :
    SeqStopsK Fence.wide n Try.prog 58 #[.pointer (some ⟨Bs, 0, none⟩)] (bx2 (m := m)) (KpB Bs g) (fun ys => fsts ys = down m m) (fun _ => True) m w := fun l J Jx W hW _ _ hY h0 =>
  backward1_in n l Bs g off m cap hm hmc hcm J Jx W hY ((hW.cell (p := ⟨Bs, 0, none⟩) hB).trans hBs) (fun j hj => by
    obtain ⟨v, hv⟩ := hg j hj
    exact ⟨v, (hW.cell (p := ⟨g, off + j, none⟩) hgw).trans hv⟩) h0

set_option maxRecDepth 100000 in
set_option maxHeartbeats 2000000 in
theorem put_in (n : Nat) (hn : 4 ≤ n) (g off m cap : Nat) (hm : m ≤ 1000) (hmc : m ≤ cap) (hcm : cap ≤ maxLen) (h : UInt64) (cur : List Value) (hfit : off + m ≤ cur.length) (w : World) (hbk : Bk w g 5 cur) :
    CallsIn Fence.wide n Try.prog 46 #[.slice (some ⟨g, off, none⟩) m cap, .int .u64 (h.toNat : Int)] w fun e W' => e = .returned (.tuple #[]) ∧ Bk W' g 5 (splice cur off ((Jr.num h m).map eb)) ∧ w.grownBy W' (some g) := by
  have h1 : 1 ≤ n := by omega
  have hgw := hbk.lt
  have HB := backward_in (n - 1) (some ⟨g, off, none⟩) m cap ((w.alloc (.cells #[.slice (some ⟨g, off, none⟩) m cap] 29 (0, 0))).alloc (.cells #[.int .u64 (h.toNat : Int)] 77 (0, 0)))
  obtain ⟨W0, hW0⟩ : ∃ W0, W0 = ((w.alloc (.cells #[.slice (some ⟨g, off, none⟩) m cap] 29 (0, 0))).alloc (.cells #[.int .u64 (h.toNat : Int)] 77 (0, 0))).alloc (.cells #[.slice (some ⟨g, off, none⟩) m cap] 29 (0, 0)) := ⟨_, rfl⟩
  have hsz : W0.heap.size = w.heap.size + 3 := by rw [hW0]; simp
  have b0 : Bk W0 w.heap.size 29 [.slice (some ⟨g, off, none⟩) m cap] := by rw [hW0]; exact ((Bk.new w _ [_]).alloc _).alloc _
  have b1 : Bk W0 (w.heap.size + 1) 77 [.int .u64 (h.toNat : Int)] := by rw [hW0]; exact (Bk.newAt _ _ [_] (by simp)).alloc _
  have b2 : Bk W0 (w.heap.size + 1 + 1) 29 [.slice (some ⟨g, off, none⟩) m cap] := by rw [hW0]; exact Bk.newAt _ _ [_] (by simp)
  have bg : Bk W0 g 5 cur := by rw [hW0]; exact ((hbk.alloc _).alloc _).alloc _
  have hl : w.grownBy W0 (some g) := by rw [hW0]; exact grown_of_below (((low_alloc _ _).alloc (by simp) _).alloc (by simp; omega) _) _
  have hcells : ∀ j, j < m → ∃ v, W0.cell? ⟨g, off + j, none⟩ = some v := fun j hj => by
    rw [bg.cell]
    exact ⟨_, List.getElem?_eq_getElem (by omega)⟩
  have HALL := Lib.hid (rowOf_all (m := m) off h cur hfit)
  have HLEN := Lib.hid (fun l => (rowOf_len (m := m) off h cur l))
  have hz := shiftN_zero h
  rw [← hz] at b1
  have HZ := Lib.hid hz
  have HSN := Lib.hid (fun l x => rowOf_snoc (m := m) off h cur l x)
  rw [← hW0] at HB
  clear hz hbk hW0
  refine callsIn_of_wp_marks Try.func46 rfl trivial ?_ rfl
  simp only [Try.ntmps46, List.size_toArray, List.length_cons, List.length_nil, Nat.reduceAdd, Nat.reduceSub, Array.replicate_succ, Array.replicate_zero, List.push_toArray, List.append_toArray, List.nil_append, List.cons_append]
  gi_wp2_with (refine ⟨trivial, ?_⟩; gi_at_call 54; refine HB.mono ?_; rintro e w1 ⟨rfl, hw1⟩; rw [hw1]; clear hw1)
  clear HB
  refine wpIn_rangeFunc_ownG rfl h1 (gf := 58) (lb := #[.pointer (some ⟨w.heap.size + 1 + 1, 0, none⟩)]) rfl trivial (enters_of Try.func58 (by kernel_rfl) rfl)
    (backward_stops (n - 1) (w.heap.size + 1 + 1) g off m cap hm hmc hcm W0 b2.lt bg.lt (b2.cell 0) hcells) kpB_t (kpB_b b2.lt bg.lt) (Below.refl _ _) (fun _ => rfl)
    (fun (pre : List (Bx2 m)) W => (Bk W g 5 (rowOf off h cur pre).2 ∧ Bk W w.heap.size 29 [.slice (some ⟨g, off, none⟩) m cap] ∧ Bk W (w.heap.size + 1) 77 [.int .u64 (shiftN h pre.length)]) ∧ w.grownBy W (some g))
    (fun _ _ _ => False)
    (OwnFrom.and (OwnFrom.and (own_bk _ bg.lt) (OwnFrom.and (own_bk _ b0.lt) (own_bk _ b1.lt))) (own_grown (by omega)))
    (fun _ _ _ _ _ hs _ _ => hs)
    ⟨⟨bg, b0, b1⟩, hl⟩
    (fun x => { tmps := #[.slice (some ⟨g, off, none⟩) m cap, .int .u64 (h.toNat : Int), .pointer (some ⟨w.heap.size, 0, none⟩), .pointer (some ⟨w.heap.size + 1, 0, none⟩), .int .i64 (x.1.1 : Int), .slice (some ⟨g, off, none⟩) m cap, .func (.func 58) #[] #[.pointer (some ⟨w.heap.size + 1 + 1, 0, none⟩)], .int .i64 (x.1.1 : Int), x.2, undef, undef, undef, undef, undef, undef, undef], defers := [] }) ?assign ?body ?done ?stop
  case assign =>
    rintro l ⟨⟨i, hi⟩, v⟩ W K hK
    simp only [bx2]
    gi_wp2
    exact hK
  case body =>
    rintro l pre ⟨⟨i, hi⟩, v⟩ W ⟨⟨k0, k1, k2⟩, hG⟩ hlt
    have c0 := k1.cell 0
    have c1 := k2.cell 0
    have z1 := k2.frozen 0
    have zg := k0.frozen (off + i)
    have HL1 := (HLEN.out pre).1
    have HL2 := (HLEN.out pre).2
    have cg := k0.cell (off + i)
    rw [List.getElem?_eq_getElem (by rw [HL2]; omega)] at cg
    have HS := HSN.out pre (⟨i, hi⟩, v)
    have hbp := byteP h pre.length
    have hsp := shiftP h pre.length
    simp only [List.getElem?_cons_zero] at c0 c1
    have hne1 : w.heap.size + 1 ≠ g := by omega
    have hne2 : w.heap.size ≠ g := by omega
    have hne3 : w.heap.size + 1 + 1 ≠ g := by omega
    gi_wp2
    have kg := (k0.set (off + i) (.int .u8 ((Sum.byte h pre.length).toNat : Int))).far (p := ⟨w.heap.size + 1, 0, none⟩) (Ne.symm hne1) (.int .u64 (shiftN h (pre.length + 1)))
    have kB := (k1.far (p := ⟨g, off + i, none⟩) hne2 (.int .u8 ((Sum.byte h pre.length).toNat : Int))).far (p := ⟨w.heap.size + 1, 0, none⟩) (by simp) (.int .u64 (shiftN h (pre.length + 1)))
    have kN := (k2.far (p := ⟨g, off + i, none⟩) hne1 (.int .u8 ((Sum.byte h pre.length).toNat : Int))).set 0 (.int .u64 (shiftN h (pre.length + 1)))
    refine ⟨((KeepsOthers.setCell _ _ _).trans (KeepsOthers.setCell _ _ _)).from _, ⟨?_, ?_⟩, ⟨?_, kB, ?_⟩, ?_⟩
    · rw [cell_far (show w.heap.size + 1 + 1 ≠ w.heap.size + 1 by omega), cell_far hne3]
    · intro j v0 hv0
      rw [kg.cell]
      rw [k0.cell] at hv0
      have := (List.getElem?_eq_some_iff.1 hv0).1
      exact ⟨_, List.getElem?_eq_getElem (by rw [List.length_set]; exact this)⟩
    · rw [HS, HL1]
      exact kg
    · rw [List.length_append]
      exact kN
    · exact grown_new (grown_own hG) (by omega)
  case done =>
    rintro D ys W hD hys ⟨⟨k0, k1, k2⟩, hG⟩ hK
    rw [HALL.out ys hys] at k0
    gi_wp2
    refine ⟨by simp, .inl ⟨_, _, rfl, run_takeDeferred hK, ?_⟩⟩
    have hDg : g ≠ D := by omega
    exact ⟨_, results_none rfl _ _ _, rfl, k0.keep (World.putObj_heap_other hDg), hG.os, hG.tape, hG.output, by simpa using hG.size, fun k hk hne => (World.putObj_heap_other (show k ≠ D by omega)).trans (hG.block k hk hne)⟩
  case stop =>
    rintro D c pre W _ _ h _
    exact h.elim

/-- put writes the number into the part of a block. -/
theorem put_w (g off m cap : Nat) (hm : m ≤ 1000) (hmc : m ≤ cap) (hcm : cap ≤ maxLen) (h : UInt64) (cur : List Value) (hfit : off + m ≤ cur.length) (w : World) (hbk : Bk w g 5 cur) :
    Calls Try.prog 46 #[.slice (some ⟨g, off, none⟩) m cap, .int .u64 (h.toNat : Int)] w fun e W' => e = .returned (.tuple #[]) ∧ Bk W' g 5 (splice cur off ((Jr.num h m).map eb)) ∧ w.grownBy W' (some g) :=
  (callsIn_wide (n := 4)).1 (put_in 4 (by omega) g off m cap hm hmc hcm h cur hfit w hbk)
end Go.Proofs.Ytcbgablnbgpjdaa
