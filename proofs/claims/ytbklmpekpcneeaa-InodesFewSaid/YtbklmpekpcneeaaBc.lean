/-
  The walks of the journal and of extent, and of their references.
-/
import Derived.Test.YtbklmpekpcneeaaRows
import Derived.Test.YtbklmpekpcneeaaBb
import Derived.Test.YtbklmpekpcneeaaBa
import Derived.Deep.DeepCutAuto
import Derived.Lib.BitFns
import Derived.Lib.BufferWrite
import Derived.LoopIn
import Derived.LoopNIn
import Derived.Maps.AppendAt
import Derived.OwnWalkIn
import Derived.RangeFuncBound
import Derived.RangeFuncBox
import Derived.RangeFuncCalls
import Derived.RangeFuncLeaves
import Derived.RangeFuncNested
import Derived.Shelf.Abstract
import Derived.Shelf.RegionOpen
import Derived.Sort.QuietIn
import Derived.TacticsInMore
import Derived.WalkKit
import Derived.Deep.AppendSrc
import Derived.Lib.AppendZerosOnto
import Derived.Lib.SmallJoins
set_option linter.unusedVariables false
set_option linter.unusedSimpArgs false
set_option maxRecDepth 100000
namespace Go.Proofs.Ytbklmpekpcneeaa
open Go.RowKit

/-- The cells of a write: an int and a slice. -/
abbrev Ew := Int × Option Addr × Nat × Nat
def ew (e : Ew) : List Value := [.int .i64 e.1, .slice e.2.1 e.2.2.1 e.2.2.2]
theorem ew_len (e : Ew) : (ew e).length = 2 := rfl
theorem ew_one (e : Ew) : ∀ u ∈ ew e, u.oneCell' = true := by intro u hu; simp [ew] at hu; rcases hu with rfl | rfl <;> rfl

/-- e reads as x. -/
def WrR (w : World) (e : Ew) (x : Jr.Wr) : Prop := e.1 = x.1 ∧ Sl eb w (.slice e.2.1 e.2.2.1 e.2.2.2) x.2
def WsR (w : World) (es : List Ew) (ls : List Jr.Wr) : Prop := es.length = ls.length ∧ ∀ i (h : i < es.length) (h' : i < ls.length), WrR w es[i] ls[i]
/-- v is a slice of writes that reads as ls. -/
def Wp (w : World) (v : Value) (ls : List Jr.Wr) : Prop := ∃ es, Sm 2 ew w v es ∧ WsR w es ls

section
variable {w w' : World} {B : Nat}
theorem WrR.keep {e : Ew} {x : Jr.Wr} (h : WrR w e x) (hk : ∀ b, b < w.heap.size → w'.heap[b]? = w.heap[b]?) : WrR w' e x := ⟨h.1, h.2.keep hk⟩
theorem WrR.below {e : Ew} {x : Jr.Wr} (h : WrR w e x) (hb : Below B w w') (hB : w.heap.size ≤ B) : WrR w' e x := ⟨h.1, h.2.below hb hB⟩
theorem WsR.keep {es : List Ew} {ls : List Jr.Wr} (h : WsR w es ls) (hk : ∀ b, b < w.heap.size → w'.heap[b]? = w.heap[b]?) : WsR w' es ls := ⟨h.1, fun i h1 h2 => (h.2 i h1 h2).keep hk⟩
theorem WsR.below {es : List Ew} {ls : List Jr.Wr} (h : WsR w es ls) (hb : Below B w w') (hB : w.heap.size ≤ B) : WsR w' es ls := ⟨h.1, fun i h1 h2 => (h.2 i h1 h2).below hb hB⟩
theorem WsR.nil : WsR w [] [] := ⟨rfl, fun i h => absurd h (by simp)⟩
theorem WsR.snoc {es : List Ew} {ls : List Jr.Wr} (h : WsR w es ls) {e : Ew} {x : Jr.Wr} (hx : WrR w e x) : WsR w (es ++ [e]) (ls ++ [x]) := by
  refine ⟨by simp [h.1], fun i h1 h2 => ?_⟩
  by_cases hi : i < es.length
  · rw [List.getElem_append_left hi, List.getElem_append_left (by rw [← h.1]; exact hi)]
    exact h.2 i hi (by rw [← h.1]; exact hi)
  · have e1 : i = es.length := by simp at h1; omega
    subst e1
    rw [List.getElem_append_right (Nat.le_refl _), List.getElem_append_right (by rw [h.1]; exact Nat.le_refl _)]
    simpa using hx
theorem Wp.keep {v : Value} {ls : List Jr.Wr} (h : Wp w v ls) (hk : ∀ b, b < w.heap.size → w'.heap[b]? = w.heap[b]?) : Wp w' v ls := by
  obtain ⟨es, h1, h2⟩ := h
  exact ⟨es, h1.keep hk, h2.keep hk⟩
theorem Wp.below {v : Value} {ls : List Jr.Wr} (h : Wp w v ls) (hb : Below B w w') (hB : w.heap.size ≤ B) : Wp w' v ls := h.keep fun b hl => hb.block b (by omega)
theorem Wp.nil : Wp w (.slice none 0 0) [] := ⟨[], Sm.nil _, rfl, fun i h => absurd h (by simp)⟩
theorem Wp.slice {v : Value} {ls : List Jr.Wr} (h : Wp w v ls) : ∃ a c, v = .slice a ls.length c := by
  obtain ⟨es, ⟨a, c, h1, -⟩, hl, -⟩ := h
  exact ⟨a, c, by rw [h1, hl]⟩
end

/-- One write in a slice: its cells. -/
structure At2 (w : World) (b o : Nat) (n : Int) (v : Value) : Prop where
  c0 : w.cell? ⟨b, o, none⟩ = some (.int .i64 n)
  c1 : w.cell? ⟨b, o + 1, none⟩ = some v

theorem At2.below {w w' : World} {B b o : Nat} {n : Int} {v : Value} (h : At2 w b o n v) (hb : Below B w w') (hB : b < B) : At2 w' b o n v :=
  ⟨by rw [hb.cell (p := ⟨b, o, none⟩) hB]; exact h.c0, by rw [hb.cell (p := ⟨b, o + 1, none⟩) hB]; exact h.c1⟩

theorem Wp.open {w : World} {v : Value} {ls : List Jr.Wr} (h : Wp w v ls) : ∃ a cap, v = .slice a ls.length cap ∧ ls.length ≤ cap ∧ cap ≤ maxLen ∧ (a = none → cap = 0) ∧
    ∀ i (hi : i < ls.length), ∃ b off a' c', a = some ⟨b, off, none⟩ ∧ b < w.heap.size ∧ At2 w b (off + i * 2) ls[i].1 (.slice a' ls[i].2.length c') ∧ Sl eb w (.slice a' ls[i].2.length c') ls[i].2 := by
  obtain ⟨es, ⟨a, cap, h1, h2, h3, h4, h5⟩, hl, he⟩ := h
  refine ⟨a, cap, by rw [← hl]; exact h1, by omega, h3, h4, fun i hi => ?_⟩
  obtain ⟨b, off, ha, hlt, hc⟩ := h5 i (by omega)
  obtain ⟨e1, e2⟩ := he i (by omega) hi
  generalize es[i]'(by omega) = e at *
  obtain ⟨n, a', m, c⟩ := e
  simp only at e1 e2
  subst e1
  obtain ⟨a2, c2, q, -⟩ := id e2
  injection q with q1 q2 q3
  subst q1 q2 q3
  exact ⟨b, off, _, _, ha, hlt, ⟨hc 0 (by omega), hc 1 (by omega)⟩, e2⟩

theorem Wp.take {w : World} {a : Option Addr} {cap : Nat} {ls : List Jr.Wr} (h : Wp w (.slice a ls.length cap) ls) (k : Nat) (hk : k ≤ ls.length) : Wp w (.slice a k cap) (ls.take k) := by
  obtain ⟨es, ⟨a2, cap2, h1, h2, h3, h4, h5⟩, hl, he⟩ := h
  injection h1 with q1 q2 q3
  subst q1 q3
  refine ⟨es.take k, ⟨a, cap, by rw [List.length_take]; congr 1; omega, by rw [List.length_take]; omega, h3, h4, fun i hi => ?_⟩, by rw [List.length_take, List.length_take, hl], fun i hi hi' => ?_⟩
  · rw [List.length_take] at hi
    rw [List.getElem_take]
    exact h5 i (by omega)
  · rw [List.length_take] at hi hi'
    rw [List.getElem_take, List.getElem_take]
    exact he i (by omega) (by omega)

/-- A slice of writes that the call owns; the bytes do not hang on the row's block, nor on the blocks of L. -/
def Wo (B : Nat) (T : TypeId) (L : List Nat) (w : World) (v : Value) (ls : List Jr.Wr) : Prop :=
  ∃ es : List Ew, w.ownsRow B T 2 v es.length (es.flatMap ew) ∧ Av (Bx L v) (fun W => WsR W es ls) w

section
variable {w w' : World} {B : Nat} {T : TypeId} {L : List Nat} {v v' : Value} {ls : List Jr.Wr}
theorem own2_keep {n s : Nat} {e : TypeId} {cs : List Value} (h : w.ownsRow B e s v n cs) (hk : ∀ k, v.ownBlock = some k → w'.heap[k]? = w.heap[k]?) : w'.ownsRow B e s v n cs := by
  refine ⟨h.1, h.2.elim .inl ?_⟩
  rintro ⟨g, cap, cur, hv, hg, hb, r⟩
  exact .inr ⟨g, cap, cur, hv, hg, by rw [hk g (by rw [hv]; rfl)]; exact hb, r⟩
theorem Wo.below (h : Wo B T L w v ls) (hb : Below w.heap.size w w') : Wo B T L w' v ls := by
  obtain ⟨es, h1, h2⟩ := h
  exact ⟨es, own2_keep h1 fun k hk => hb.block k (h1.lt k hk).2, h2.below hb⟩
theorem Wo.wp (h : Wo B T L w v ls) : Wp w v ls := by
  obtain ⟨es, h1, h2⟩ := h
  exact ⟨es, Sm.ofOwn ew_len h1 rfl, h2.here⟩
theorem Wo.nil : Wo B T L w (.slice none 0 0) [] := ⟨[], World.ownsRow_nil _ _ _ _, Av.mono (Av.pure (X := _) trivial) fun _ _ => WsR.nil⟩
theorem Wo.set (h : Wo B T L w v ls) {b : Nat} (hb : b ∈ L) (hv : v.ownBlock ≠ some b) (i : Nat) (u : Value) : Wo B T L (w.setCell ⟨b, i, none⟩ u) v ls := by
  obtain ⟨es, h1, h2⟩ := h
  exact ⟨es, own2_keep h1 fun k hk => Below.heap_setCell _ _ _ _ (fun e => hv (by rw [hk]; exact congrArg some e)), h2.set (.inl hb) u⟩
theorem Wo.slice (h : Wo B T L w v ls) : ∃ a c, v = .slice a ls.length c ∧ ls.length ≤ c ∧ c ≤ maxLen := by
  obtain ⟨a, c, h1, h2, h3, -⟩ := h.wp.open
  exact ⟨a, c, h1, h2, h3⟩
theorem Wo.less {L' : List Nat} (h : Wo B T L w v ls) (hl : ∀ b ∈ L', b ∈ L) : Wo B T L' w v ls := by
  obtain ⟨es, h1, h2⟩ := h
  exact ⟨es, h1, h2.less fun b _ hb => hb.elim (fun h => .inl (hl b h)) .inr⟩
end

theorem jhome_w (n : Int) (w : World) : Calls Try.prog 66 #[.int .i64 n] w fun e w' => e = .returned (.bool (Jr.home n)) ∧ w = w' := by
  have HE : Hid (Jr.home n = (decide (0 ≤ n) && (decide (n < 96) && (decide (n < 1) || decide (12 < n))))) := rfl
  generalize Jr.home n = r at *
  by_cases h1 : 0 ≤ n
  · by_cases h2 : n < 96
    · by_cases h3 : n < 1
      · go_enter Try.func66, Try.ntmps66
        go_wp2
        go_ret
        exact ⟨ret_bool (by rw [HE.out]; simp; omega), rfl⟩
      · go_enter Try.func66, Try.ntmps66
        go_wp2
        go_ret
        exact ⟨ret_bool (by rw [HE.out]; simp [h1, h2]; omega), rfl⟩
    · go_enter Try.func66, Try.ntmps66
      go_wp2
      go_ret
      exact ⟨ret_bool (by rw [HE.out]; simp; omega), rfl⟩
  · go_enter Try.func66, Try.ntmps66
    go_wp2
    go_ret
    exact ⟨ret_bool (by rw [HE.out]; simp; omega), rfl⟩

end Go.Proofs.Ytbklmpekpcneeaa

namespace Go.Proofs.Ytbklmpekpcneeaa
open Go.RowKit

/-- A part of a slice. -/
theorem Sl.cut {α : Type} {enc : α → Value} {w : World} {b off n cap : Nat} {xs : List α} (h : Sl enc w (.slice (some ⟨b, off, none⟩) n cap) xs) (i m : Nat) (hi : i + m ≤ n) : Sl enc w (.slice (some ⟨b, off + i, none⟩) m (cap - i)) ((xs.drop i).take m) := by
  obtain ⟨a, c, h1, h2, h3, -, h5⟩ := h
  injection h1 with q1 q2 q3
  subst q1 q2 q3
  refine ⟨_, _, by rw [List.length_take, List.length_drop]; congr 1; omega, by rw [List.length_take, List.length_drop]; omega, by omega, by simp, fun j hj => ?_⟩
  rw [List.length_take, List.length_drop] at hj
  obtain ⟨g, o, e1, e2, e3⟩ := h5 (i + j) (by omega)
  simp only [Option.some.injEq, Addr.mk.injEq, and_true] at e1
  obtain ⟨rfl, rfl⟩ := e1
  refine ⟨_, _, rfl, e2, ?_⟩
  rw [List.getElem_take, List.getElem_drop, Nat.add_assoc]
  exact e3

theorem Sl.addr {w : World} {a : Option Addr} {n cap : Nat} {xs : List UInt8} (h : Sl eb w (.slice a n cap) xs) (h0 : 0 < n) : ∃ b off, a = some ⟨b, off, none⟩ ∧ b < w.heap.size ∧ n = xs.length ∧ n ≤ cap ∧ cap ≤ maxLen := by
  obtain ⟨a, c, h1, h2, h3, -, h5⟩ := h
  injection h1 with q1 q2 q3
  subst q1 q2 q3
  obtain ⟨b, off, e, e2, -⟩ := h5 0 h0
  exact ⟨b, off, e, e2, rfl, h2, h3⟩

theorem Try.info5 : (Try.prog.info? 5).map (fun i => (i.zero, i.size, i.bytes)) = some (some (.int .u8 0), 1, 1) := by kernel_rfl
theorem Try.infoJ : (Try.prog.info? 66).map (fun i => (i.zero, i.size, i.bytes)) = some (some (.agg #[.int .i64 0, .slice none 0 0]), 2, 32) := by kernel_rfl
theorem Try.infoR : (Try.prog.info? 65).map (fun i => (i.zero, i.size, i.bytes)) = some (some (.agg #[.int .i64 0, .slice none 0 0]), 2, 32) := by kernel_rfl

theorem block_w (g off cap k : Nat) (hk : k < 96) (hc : 12288 ≤ cap) (hm : cap ≤ maxLen) (w : World) :
    Calls Try.prog 65 #[.slice (some ⟨g, off, none⟩) 12288 cap, .int .i64 (k : Int)] w fun e w' => e = .returned (.slice (some ⟨g, off + k * 128, none⟩) 128 (cap - k * 128)) ∧ w = w' := by
  unfold maxLen at hm
  have f1 : (0 : Int) ≤ (k : Int) * 128 := by omega
  have f2 : (k : Int) * 128 ≤ ((k : Int) + 1) * 128 := by omega
  have f3 : ((k : Int) + 1) * 128 ≤ (cap : Int) := by omega
  go_enter Try.func65, Try.ntmps65
  go_wp2
  go_ret
  exact ⟨by rw [show (k + 1) * 128 - k * 128 = 128 by omega]; rfl, rfl⟩

theorem rblock_w (g off cap k : Nat) (hk : k < 96) (hc : 12288 ≤ cap) (hm : cap ≤ maxLen) (w : World) :
    Calls Try.prog 51 #[.slice (some ⟨g, off, none⟩) 12288 cap, .int .i64 (k : Int)] w fun e w' => e = .returned (.slice (some ⟨g, off + k * 128, none⟩) 128 (cap - k * 128)) ∧ w = w' := by
  unfold maxLen at hm
  have f1 : (0 : Int) ≤ (k : Int) * 128 := by omega
  have f2 : (k : Int) * 128 ≤ ((k : Int) + 1) * 128 := by omega
  have f3 : ((k : Int) + 1) * 128 ≤ (cap : Int) := by omega
  go_enter Try.func51, Try.ntmps51
  go_wp2
  go_ret
  exact ⟨by rw [show (k + 1) * 128 - k * 128 = 128 by omega]; rfl, rfl⟩

/-- slices.Clone of bytes. -/
theorem bclone_w {v : Value} {xs : List UInt8} {w : World} (hv : Sl eb w v xs) (hm : xs.length ≤ 1000000) :
    Calls Try.prog 64 #[v] w fun e w' => ∃ v, e = .returned v ∧ w'.ownsRow w.heap.size 5 1 v xs.length (xs.map eb) ∧ Below w.heap.size w w' := by
  obtain ⟨a, cap, rfl, hc, hcm, hn, hr⟩ := hv
  obtain ⟨i0, hi, hz0, hz1, hz2⟩ := info_parts Try.info5
  have he := fun (W : World) (a : Option Addr) (n c : Nat) => Lib.run_eql_slice_nil (P := Try.prog) W 25 5 a n c 0 0 Try.underlying25
  cases a with
  | none =>
    have hc0 := hn rfl
    obtain rfl : xs = [] := by cases xs with | nil => rfl | cons x xs => simp at hc; omega
    subst hc0
    go_enter Try.func64, Try.ntmps64
    go_wp2
    go_ret
    exact ⟨_, rfl, World.ownsRow_nil _ _ _ _, Below.refl _ _⟩
  | some ad =>
    go_enter Try.func64, Try.ntmps64
    go_wp2_with (at_builtin; refine wpList_append_rd eb (fun _ => rfl) rfl _ _ 25 rfl w.heap.size 5 i0 (.int .u8 0) 1 Try.underlying25 hi hz0 hz1 hz2 rfl _ 0 [] rfl (World.ownsRow_made w #[] 0 (Nat.le_refl _) (Nat.zero_le _) rfl) (some ad) cap xs xs.length rfl rfl (by simp) hc (hr.below ((Below.refl _ w).alloc (Nat.le_refl _) _) (Nat.le_refl _)) (by unfold maxLen; omega) (by omega) (by simp) ?_; intro v1 w1 hown hg hbl)
    go_wp2
    go_ret
    exact ⟨_, rfl, by simpa using hown, ((Below.refl _ w).alloc (Nat.le_refl _) _).trans hbl⟩

end Go.Proofs.Ytbklmpekpcneeaa

set_option maxRecDepth 100000
namespace Go.Proofs.Ytbklmpekpcneeaa
open Go.RowKit

theorem wrap_u8_in (n : Int) (h0 : 0 ≤ n) (h1 : n < 256) : IntKind.u8.wrap n = n := by
  simp only [IntKind.wrap, IntKind.bits, IntKind.signed, Bool.false_and]
  simp
  omega

theorem bv8 (x : Nat) (h : x < 256) : (BitVec.ofInt 8 (x : Int)).toNat = x := by
  rw [BitVec.ofInt_natCast, BitVec.toNat_ofNat]; exact Nat.mod_eq_of_lt (by omega)

theorem get_bit (x : UInt8) (k : Nat) : (Go.bits BinOp.and IntKind.u8 ((x.toNat : Int) / 2 ^ k) 1 == 1) = Ex.bitB x k := by
  have hx : x.toNat < 256 := x.toNat_lt
  have hd : x.toNat / 2 ^ k < 256 := Nat.lt_of_le_of_lt (Nat.div_le_self _ _) hx
  have h1 : ((x.toNat : Int) / 2 ^ k) = ((x.toNat / 2 ^ k : Nat) : Int) := by simp
  have h2 : x.toNat / 2 ^ k &&& 1 < 2 ^ 8 := Nat.and_lt_two_pow _ (by omega)
  have h3 : Go.bits BinOp.and IntKind.u8 ((x.toNat : Int) / 2 ^ k) 1 = ((x.toNat / 2 ^ k % 2 : Nat) : Int) := by
    rw [h1]
    show IntKind.u8.wrap ((BitVec.ofInt 8 ((x.toNat / 2 ^ k : Nat) : Int) &&& BitVec.ofInt 8 (1 : Int)).toNat : Int) = _
    rw [BitVec.toNat_and, bv8 _ hd, show (BitVec.ofInt 8 (1 : Int)).toNat = 1 from rfl, wrap_u8_in _ (by omega) (by omega), Nat.and_one_is_mod]
  rw [h3]
  unfold Ex.bitB
  rw [Nat.testBit_eq_decide_div_mod_eq, Bool.eq_iff_iff]
  simp
  omega

theorem pow8 {k : Nat} (hk : k < 8) : (2 : Int) ^ k % 256 = ((2 ^ k : Nat) : Int) ∧ 2 ^ k < 256 := by
  have h2 : 2 ^ k < 256 := by
    have : 2 ^ k < 2 ^ 8 := Nat.pow_lt_pow_right (by omega) hk
    simpa using this
  have h : (2 : Int) ^ k = ((2 ^ k : Nat) : Int) := by simp
  refine ⟨?_, h2⟩
  rw [h]
  exact Int.emod_eq_of_lt (Int.natCast_nonneg _) (Int.ofNat_lt.2 h2)

theorem set_on (x : UInt8) {k : Nat} (hk : k < 8) : Go.bits BinOp.or IntKind.u8 (x.toNat : Int) (2 ^ k % 256) = ((Ex.setB x k true).toNat : Int) := by
  obtain ⟨h1, h2⟩ := pow8 hk
  have hx : x.toNat < 256 := x.toNat_lt
  have h3 : x.toNat ||| 2 ^ k < 2 ^ 8 := Nat.or_lt_two_pow (by omega) (by omega)
  rw [h1, Ex.setB_nat x hk true]
  show IntKind.u8.wrap ((BitVec.ofInt 8 (x.toNat : Int) ||| BitVec.ofInt 8 ((2 ^ k : Nat) : Int)).toNat : Int) = _
  rw [BitVec.toNat_or, bv8 _ hx, bv8 _ h2, wrap_u8_in _ (by omega) (by omega)]
  simp

theorem set_off (x : UInt8) {k : Nat} (hk : k < 8) : Go.bits BinOp.andNot IntKind.u8 (x.toNat : Int) (2 ^ k % 256) = ((Ex.setB x k false).toNat : Int) := by
  obtain ⟨h1, h2⟩ := pow8 hk
  have hx : x.toNat < 256 := x.toNat_lt
  rw [h1, Ex.setB_nat x hk false]
  have h3 : (BitVec.ofInt 8 (x.toNat : Int) &&& ~~~BitVec.ofInt 8 ((2 ^ k : Nat) : Int)) = (BitVec.ofInt 8 (x.toNat : Int) ^^^ (BitVec.ofInt 8 (x.toNat : Int) &&& BitVec.ofInt 8 ((2 ^ k : Nat) : Int))) := by
    apply BitVec.eq_of_getLsbD_eq
    intro i hi
    simp only [BitVec.getLsbD_and, BitVec.getLsbD_not, BitVec.getLsbD_xor, hi, decide_true, Bool.true_and]
    cases (BitVec.ofInt 8 (x.toNat : Int)).getLsbD i <;> simp
  show IntKind.u8.wrap ((BitVec.ofInt 8 (x.toNat : Int) &&& ~~~BitVec.ofInt 8 ((2 ^ k : Nat) : Int)).toNat : Int) = _
  rw [h3, BitVec.toNat_xor, BitVec.toNat_and, bv8 _ hx, bv8 _ h2]
  have h4 : x.toNat ^^^ (x.toNat &&& 2 ^ k) < 2 ^ 8 := Nat.xor_lt_two_pow (by omega) (Nat.and_lt_two_pow _ (by omega))
  rw [wrap_u8_in _ (by omega) (by omega)]
  simp

set_option maxHeartbeats 400000 in
theorem eget_w (a : Option Addr) (cap n : Nat) (xs : List UInt8) (i : Int) (w : World) (hl : xs.length = n) (hm : n ≤ 1000000) (hr : Rd eb w a xs) (hi : i ≤ 9223372036854775807) :
    Calls Try.prog 93 #[.slice a n cap, .int .i64 i] w fun e w' => e = .returned (.bool (Ex.getB xs i)) ∧ w = w' := by
  subst hl
  by_cases h0 : 0 ≤ i
  · by_cases h1 : i / 8 < (xs.length : Int)
    · obtain ⟨j, rfl⟩ := Int.eq_ofNat_of_zero_le h0
      have hj : j / 8 < xs.length := by omega
      obtain ⟨b, off, rfl, hb, hc⟩ := hr.form (by omega)
      have hck := hc (j / 8) hj
      unfold eb at hck
      clear hc hr
      have e1 : ((j : Int) / 8).toNat = j / 8 := by omega
      go_enter Try.func93, Try.ntmps93
      go_wp2
      go_ret
      refine ⟨ret_bool ?_, rfl⟩
      rw [get_bit, Ex.getB_nat, decide_eq_true hj]
      simp [List.getD, hj]
    · have h1' : (xs.length : Int) ≤ i / 8 := by omega
      go_enter Try.func93, Try.ntmps93
      go_wp2
      go_ret
      refine ⟨ret_bool ?_, rfl⟩
      obtain ⟨j, rfl⟩ := Int.eq_ofNat_of_zero_le h0
      rw [Ex.getB_out xs (by omega)]
  · go_enter Try.func93, Try.ntmps93
    go_wp2
    go_ret
    exact ⟨ret_bool (by rw [Ex.getB_neg xs (by omega)]), rfl⟩

set_option maxHeartbeats 400000 in
theorem erget_w (a : Option Addr) (cap n : Nat) (xs : List UInt8) (i : Int) (w : World) (hl : xs.length = n) (hm : n ≤ 1000000) (hr : Rd eb w a xs) (hi : i ≤ 9223372036854775807) :
    Calls Try.prog 54 #[.slice a n cap, .int .i64 i] w fun e w' => e = .returned (.bool (Ex.getB xs i)) ∧ w = w' := by
  subst hl
  by_cases h0 : 0 ≤ i
  · by_cases h1 : i / 8 < (xs.length : Int)
    · obtain ⟨j, rfl⟩ := Int.eq_ofNat_of_zero_le h0
      have hj : j / 8 < xs.length := by omega
      obtain ⟨b, off, rfl, hb, hc⟩ := hr.form (by omega)
      have hck := hc (j / 8) hj
      unfold eb at hck
      clear hc hr
      have e1 : ((j : Int) / 8).toNat = j / 8 := by omega
      go_enter Try.func54, Try.ntmps54
      go_wp2
      go_ret
      refine ⟨ret_bool ?_, rfl⟩
      rw [get_bit, Ex.getB_nat, decide_eq_true hj]
      simp [List.getD, hj]
    · have h1' : (xs.length : Int) ≤ i / 8 := by omega
      go_enter Try.func54, Try.ntmps54
      go_wp2
      go_ret
      refine ⟨ret_bool ?_, rfl⟩
      obtain ⟨j, rfl⟩ := Int.eq_ofNat_of_zero_le h0
      rw [Ex.getB_out xs (by omega)]
  · go_enter Try.func54, Try.ntmps54
    go_wp2
    go_ret
    exact ⟨ret_bool (by rw [Ex.getB_neg xs (by omega)]), rfl⟩

/-- A row of bytes of the call's own in block g. -/
def Bm (w : World) (base g cap : Nat) (xs : List UInt8) : Prop := w.ownsRow base 5 1 (.slice (some ⟨g, 0, none⟩) xs.length cap) xs.length (xs.map eb)

theorem Bm.cell {w : World} {base g cap : Nat} {xs : List UInt8} (h : Bm w base g cap xs) (j : Nat) (hj : j < xs.length) : w.cell? ⟨g, j, none⟩ = some (eb xs[j]) := by
  have := World.ownsRow.cellAt h j (by omega)
  rw [this]
  simp [hj]

theorem Bm.rd {w : World} {base g cap : Nat} {xs : List UInt8} (h : Bm w base g cap xs) : Rd eb w (some ⟨g, 0, none⟩) xs := by
  intro i hi
  exact ⟨g, 0, rfl, (World.ownsRow.lt h g rfl).2, by rw [Nat.zero_add]; exact h.cell i hi⟩

set_option maxHeartbeats 400000 in
theorem eput_w (base g cap : Nat) (xs : List UInt8) (i : Int) (on : Bool) (w : World) (h : Bm w base g cap xs) (hm : xs.length ≤ 1000000) (hi0 : 0 ≤ i) (hi : i < 8 * xs.length) :
    Calls Try.prog 82 #[.slice (some ⟨g, 0, none⟩) xs.length cap, .int .i64 i, .bool on] w fun e w' => e = .returned (.tuple #[]) ∧ Bm w' base g cap (Ex.putB xs i.toNat on) ∧ w.grownBy w' (some g) := by
  obtain ⟨j, rfl⟩ := Int.eq_ofNat_of_zero_le hi0
  rw [Int.toNat_natCast]
  have hj : j / 8 < xs.length := by omega
  have hk : j % 8 < 8 := Nat.mod_lt _ (by omega)
  have hck := h.cell (j / 8) hj
  have hfz := World.ownsRow.frozenAt h (j / 8)
  have hst := World.ownsRow.stored (w := w.drew) h (j / 8) (eb (Ex.setB xs[j / 8] (j % 8) on))
  have hpb : (xs.map eb).set (j / 8) (eb (Ex.setB xs[j / 8] (j % 8) on)) = (Ex.putB xs j on).map eb := by
    unfold Ex.putB; simp [List.getD, hj]
  rw [hpb] at hst
  have hlen := Ex.length_putB xs j on
  unfold eb at hck
  have e1 : ((j : Int) / 8).toNat = j / 8 := by omega
  have e2 : (0 : Int) ≤ (j : Int) / 8 := by omega
  have e3 : (j : Int) / 8 < (xs.length : Int) := by omega
  have e4 : (0 : Int) ≤ (j : Int) % 8 := by omega
  have HST := Lib.hid hst
  have HON := Lib.hid (set_on xs[j / 8] hk)
  have HOF := Lib.hid (set_off xs[j / 8] hk)
  have HL := Lib.hid hlen
  clear hst hpb hlen h
  cases on with
  | true =>
    go_enter Try.func82, Try.ntmps82
    go_wp2
    go_region
    go_end0
    rw [HON.out]
    refine ⟨rfl, ?_, ?_⟩
    · unfold Bm
      rw [HL.out]
      exact HST.out.1
    · have h2 := HST.out.2
      exact ⟨h2.os, h2.tape, h2.output, h2.size, h2.block⟩
  | false =>
    go_enter Try.func82, Try.ntmps82
    go_wp2
    go_region
    go_end0
    rw [HOF.out]
    refine ⟨rfl, ?_, ?_⟩
    · unfold Bm
      rw [HL.out]
      exact HST.out.1
    · have h2 := HST.out.2
      exact ⟨h2.os, h2.tape, h2.output, h2.size, h2.block⟩

set_option maxHeartbeats 400000 in
theorem evalid_w (a : Option Addr) (cap n : Nat) (x y : Int) (w : World) (hm : n ≤ 1000000) :
    Calls Try.prog 92 #[.slice a n cap, .int .i64 x, .int .i64 y] w fun e w' => e = .returned (.bool (Ex.okR n x y)) ∧ w = w' := by
  by_cases h1 : 0 ≤ x
  · by_cases h2 : x ≤ y
    · by_cases h3 : y ≤ 8 * (n : Int)
      · go_enter Try.func92, Try.ntmps92
        go_wp2
        go_ret
        exact ⟨ret_bool (by simp [Ex.okR]; omega), rfl⟩
      · go_enter Try.func92, Try.ntmps92
        go_wp2
        go_ret
        exact ⟨ret_bool (by simp [Ex.okR]; omega), rfl⟩
    · go_enter Try.func92, Try.ntmps92
      go_wp2
      go_ret
      exact ⟨ret_bool (by simp [Ex.okR]; omega), rfl⟩
  · go_enter Try.func92, Try.ntmps92
    go_wp2
    go_ret
    exact ⟨ret_bool (by simp [Ex.okR]; omega), rfl⟩

set_option maxHeartbeats 400000 in
theorem ervalid_w (a : Option Addr) (cap n : Nat) (x y : Int) (w : World) (hm : n ≤ 1000000) :
    Calls Try.prog 94 #[.slice a n cap, .int .i64 x, .int .i64 y] w fun e w' => e = .returned (.bool (Ex.okR n x y)) ∧ w = w' := by
  by_cases h1 : 0 ≤ x
  · by_cases h2 : x ≤ y
    · by_cases h3 : y ≤ 8 * (n : Int)
      · go_enter Try.func94, Try.ntmps94
        go_wp2
        go_ret
        exact ⟨ret_bool (by simp [Ex.okR]; omega), rfl⟩
      · go_enter Try.func94, Try.ntmps94
        go_wp2
        go_ret
        exact ⟨ret_bool (by simp [Ex.okR]; omega), rfl⟩
    · go_enter Try.func94, Try.ntmps94
      go_wp2
      go_ret
      exact ⟨ret_bool (by simp [Ex.okR]; omega), rfl⟩
  · go_enter Try.func94, Try.ntmps94
    go_wp2
    go_ret
    exact ⟨ret_bool (by simp [Ex.okR]; omega), rfl⟩

end Go.Proofs.Ytbklmpekpcneeaa

namespace Go.Proofs.Ytbklmpekpcneeaa
open Go.RowKit

set_option maxHeartbeats 800000 in
theorem erput_w {v : Value} {xs : List UInt8} {w : World} (i : Int) (on : Bool) (hv : Sl eb w v xs) (hm : xs.length ≤ 1000000) (hi0 : 0 ≤ i) (hi : i < 8 * xs.length) :
    Calls Try.prog 79 #[v, .int .i64 i, .bool on] w fun e w' => ∃ v', e = .returned v' ∧ w'.ownsRow w.heap.size 5 1 v' (Ex.putB xs i.toNat on).length ((Ex.putB xs i.toNat on).map eb) ∧ Below w.heap.size w w' := by
  obtain ⟨a, cap, rfl, hc, hcm, hn, hr⟩ := hv
  obtain ⟨i0, hi', hz0, hz1, hz2⟩ := info_parts Try.info5
  obtain ⟨j, rfl⟩ := Int.eq_ofNat_of_zero_le hi0
  rw [Int.toNat_natCast]
  have hj : j / 8 < xs.length := by omega
  have hk : j % 8 < 8 := Nat.mod_lt _ (by omega)
  have e1 : ((j : Int) / 8).toNat = j / 8 := by omega
  have e2 : (0 : Int) ≤ (j : Int) / 8 := by omega
  have e3 : (j : Int) / 8 < (xs.length : Int) := by omega
  have e4 : (0 : Int) ≤ (j : Int) % 8 := by omega
  have hof := set_off xs[j / 8] hk
  have hon := set_on (Ex.setB xs[j / 8] (j % 8) false) hk
  rw [Ex.setB_setB _ hk] at hon
  have HL := Lib.hid (fun on => Ex.length_putB xs j on)
  have HP : Hid (∀ on, (Ex.putB xs j on).map eb = (xs.map eb).set (j / 8) (eb (Ex.setB xs[j / 8] (j % 8) on))) := fun on => by
    unfold Ex.putB; simp [List.getD, hj]
  have H : ∀ (v1 : Value) (w1 : World), w1.ownsRow w.heap.size 5 1 v1 xs.length (xs.map eb) → Below w.heap.size w w1 → ∃ g c, v1 = .slice (some ⟨g, 0, none⟩) xs.length c ∧
      w1.cell? ⟨g, j / 8, none⟩ = some (.int .u8 (xs[j / 8].toNat : Int)) ∧ w1.frozen? ⟨g, j / 8, none⟩ = false ∧
      Hid (∀ x : UInt8, (w1.setCell ⟨g, j / 8, none⟩ (eb x)).ownsRow w.heap.size 5 1 v1 xs.length ((xs.map eb).set (j / 8) (eb x)) ∧ Below w.heap.size w (w1.setCell ⟨g, j / 8, none⟩ (eb x))) ∧
      Hid (∀ x y : UInt8, ((w1.setCell ⟨g, j / 8, none⟩ (eb x)).setCell ⟨g, j / 8, none⟩ (eb y)).ownsRow w.heap.size 5 1 v1 xs.length ((xs.map eb).set (j / 8) (eb y)) ∧ Below w.heap.size w ((w1.setCell ⟨g, j / 8, none⟩ (eb x)).setCell ⟨g, j / 8, none⟩ (eb y))) := by
    intro v1 w1 ho hb
    obtain ⟨g, c, rfl⟩ := own_form ho (by omega)
    have hg := (ho.lt g rfl).1
    refine ⟨g, c, rfl, ?_, World.ownsRow.frozenAt ho _, fun x => ⟨(World.ownsRow.stored ho _ _).1, hb.setCell (p := ⟨g, j / 8, none⟩) hg _⟩, fun x y => ⟨?_, (hb.setCell (p := ⟨g, j / 8, none⟩) hg _).setCell (p := ⟨g, j / 8, none⟩) hg _⟩⟩
    · rw [World.ownsRow.cellAt ho _ (by omega)]; simp [hj, eb]
    · have := (World.ownsRow.stored (World.ownsRow.stored ho (j / 8) (eb x)).1 (j / 8) (eb y)).1
      rw [List.set_set] at this
      exact this
  have HH := Lib.hid H
  clear H
  cases on with
  | true =>
    go_enter Try.func79, Try.ntmps79
    go_wp2_with (at_builtin; refine wpList_append_rd eb (fun _ => rfl) rfl _ _ 25 rfl w.heap.size 5 i0 (.int .u8 0) 1 Try.underlying25 hi' hz0 hz1 hz2 rfl _ 0 [] rfl (World.ownsRow_made w #[] 0 (Nat.le_refl _) (Nat.zero_le _) rfl) a cap xs xs.length rfl rfl hn hc (hr.below ((Below.refl _ w).alloc (Nat.le_refl _) _) (Nat.le_refl _)) (by unfold maxLen; omega) (by omega) (by simp) ?_; intro v1 w1 ho1 hs1 hb1; simp only [Nat.zero_add, List.nil_append] at ho1; have hb01 := ((Below.refl _ w).alloc (Nat.le_refl _) (Obj.cells #[] 5)).trans hb1; obtain ⟨g, c, hv1, hc1, hf1, HA, HB⟩ := HH.out v1 w1 ho1 hb01; rw [hv1]; rw [hv1] at HA HB; clear hv1 ho1 hs1 hb1 hb01 HH)
    go_region
    go_wp2
    go_region
    go_wp2
    go_ret
    have hB := HB.out (Ex.setB xs[j / 8] (j % 8) false) (Ex.setB xs[j / 8] (j % 8) true)
    exact ⟨_, rfl, by rw [HL.out, HP.out]; exact hB.1.drew.drew, hB.2.drew.drew⟩
  | false =>
    go_enter Try.func79, Try.ntmps79
    go_wp2_with (at_builtin; refine wpList_append_rd eb (fun _ => rfl) rfl _ _ 25 rfl w.heap.size 5 i0 (.int .u8 0) 1 Try.underlying25 hi' hz0 hz1 hz2 rfl _ 0 [] rfl (World.ownsRow_made w #[] 0 (Nat.le_refl _) (Nat.zero_le _) rfl) a cap xs xs.length rfl rfl hn hc (hr.below ((Below.refl _ w).alloc (Nat.le_refl _) _) (Nat.le_refl _)) (by unfold maxLen; omega) (by omega) (by simp) ?_; intro v1 w1 ho1 hs1 hb1; simp only [Nat.zero_add, List.nil_append] at ho1; have hb01 := ((Below.refl _ w).alloc (Nat.le_refl _) (Obj.cells #[] 5)).trans hb1; obtain ⟨g, c, hv1, hc1, hf1, HA, HB⟩ := HH.out v1 w1 ho1 hb01; rw [hv1]; rw [hv1] at HA HB; clear hv1 ho1 hs1 hb1 hb01 HH)
    go_region
    go_wp2
    go_ret
    have hA := HA.out (Ex.setB xs[j / 8] (j % 8) false)
    exact ⟨_, rfl, by rw [HL.out, HP.out]; exact hA.1.drew, hA.2.drew⟩
end Go.Proofs.Ytbklmpekpcneeaa

namespace Go.Proofs.Ytbklmpekpcneeaa
open Go.RowKit

theorem ret3i {v : Value} {a b c : Int} (h : a = b) : Ending.returned (.tuple #[.int .i64 a, v, .int .i64 c]) = .returned (.tuple #[.int .i64 b, v, .int .i64 c]) := by rw [h]

end Go.Proofs.Ytbklmpekpcneeaa

namespace Go.Proofs.Ytbklmpekpcneeaa
open Go.RowKit

/-- An index as a value. -/
def ei (n : Nat) : Value := .int .i64 (n : Int)

theorem Try.info3 : (Try.prog.info? 3).map (fun i => (i.zero, i.size, i.bytes)) = some (some (.int .i64 0), 1, 8) := by kernel_rfl

/-- A list of indices reads as a list of integers. -/
theorem Sl.ints {w : World} {v : Value} {l : List Nat} (h : Sl ei w v l) : Sl (Value.int .i64) w v (l.map fun n : Nat => (n : Int)) := by
  obtain ⟨a, cap, h1, h2, h3, h4, h5⟩ := h
  refine ⟨a, cap, by simpa using h1, by simpa using h2, h3, h4, fun i hi => ?_⟩
  obtain ⟨b, off, ha, hlt, hc⟩ := h5 i (by simpa using hi)
  exact ⟨b, off, ha, hlt, by rw [hc]; simp [ei]⟩

theorem ret3b {v u : Value} {a b : Int} (h : a = b) : Ending.returned (.tuple #[v, u, .int .i64 a]) = .returned (.tuple #[v, u, .int .i64 b]) := by rw [h]

/-- What a row of the call's own holds hangs on no elder block. -/
theorem own_fresh {α : Type} {enc : α → Value} {w : World} {base : Nat} {e : TypeId} {v : Value} {xs : List α} (h : w.ownsRow base e 1 v xs.length (xs.map enc)) : Av (fun b => b < base) (fun W => Sl enc W v xs) w := fun _ hW => Sl.ofOwn (own_keep h fun k hk => hW k (h.lt k hk).2 (by have := (h.lt k hk).1; simp only; omega))
set_option maxHeartbeats 1600000 in
theorem etake_w {v : Value} {xs : List UInt8} {w : World} (x y n : Int) (hv : Sl eb w v xs) (hm : xs.length ≤ 1000) (hx : x ≤ 9223372036854775807) (hn : n ≤ 9223372036854775807) {l : List Nat} {ys : List UInt8} {c : Int} (hr : Ex.take xs x y n = (l, ys, c)) :
    Calls Try.prog 84 #[v, .int .i64 x, .int .i64 y, .int .i64 n] w fun e w' => ∃ v1 v2, e = .returned (.tuple #[v1, v2, .int .i64 c]) ∧ Av (fun b => b < w.heap.size) (fun W => Sl ei W v1 l) w' ∧ Av (fun b => b < w.heap.size) (fun W => Sl eb W v2 ys) w' ∧ Below w.heap.size w w' := by
  have HV := Lib.hid hv
  obtain ⟨a, cap, rfl, hc, hcm, hna, hrd⟩ := hv
  have HW := evalid_w a cap xs.length x y w (by omega)
  cases hok : Ex.okR xs.length x y with
  | false =>
    rw [Ex.take_bad (.inl hok)] at hr
    simp only [Prod.mk.injEq] at hr
    obtain ⟨rfl, rfl, rfl⟩ := hr
    rw [hok] at HW
    clear hok
    go_enter Try.func84, Try.ntmps84
    go_wp2_with (go_at_call 92; refine HW.mono ?_; rintro e w' ⟨rfl, rfl⟩)
    go_ret3
    exact ⟨_, _, rfl, fun _ _ => Sl.nil _ _, fun _ _ => Sl.nil _ _, Below.refl _ _⟩
  | true =>
    rw [hok] at HW
    by_cases hn1 : n < 1
    · rw [Ex.take_bad (.inr hn1)] at hr
      simp only [Prod.mk.injEq] at hr
      obtain ⟨rfl, rfl, rfl⟩ := hr
      clear hok
      go_enter Try.func84, Try.ntmps84
      go_wp2_with (go_at_call 92; refine HW.mono ?_; rintro e w' ⟨rfl, rfl⟩)
      go_ret3
      exact ⟨_, _, rfl, fun _ _ => Sl.nil _ _, fun _ _ => Sl.nil _ _, Below.refl _ _⟩
    · obtain ⟨x, y, rfl, rfl, hxy, hy8⟩ := Ex.okR_nat hok
      obtain ⟨n, rfl⟩ := Int.eq_ofNat_of_zero_le (by omega : 0 ≤ n)
      have hn1' : 1 ≤ n := by omega
      have HR : Hid (∀ i, x ≤ i → i ≤ y → (Ex.cl xs x i).length ≤ n → (i < y → (Ex.cl xs x i).length = n) → ((Ex.cl xs x i).length < n ∧ l = [] ∧ ys = [] ∧ c = 13) ∨ ((Ex.cl xs x i).length = n ∧ l = Ex.cl xs x i ∧ ys = Ex.puts xs (Ex.cl xs x i) true ∧ c = 0)) := by
        intro i h1 h2 h3 h4
        by_cases h : (Ex.cl xs x i).length = n
        · right
          rw [Ex.take_some hok hn1' h1 h2 h] at hr
          simp only [Prod.mk.injEq] at hr
          exact ⟨h, hr.1.symm, hr.2.1.symm, hr.2.2.symm⟩
        · left
          have hiy : i = y := by
            by_cases hh : i < y
            · exact absurd (h4 hh) h
            · omega
          subst hiy
          rw [Ex.take_few hok hn1' (by omega)] at hr
          simp only [Prod.mk.injEq] at hr
          exact ⟨by omega, hr.1.symm, hr.2.1.symm, hr.2.2.symm⟩
      have HG := Lib.hid (fun (i : Nat) (hi : (i : Int) ≤ 9223372036854775807) (wr : World) (hbl : Below w.heap.size w wr) => eget_w a cap xs.length xs i wr rfl (by omega) (hrd.below hbl (Nat.le_refl _)) hi)
      have HC2 := Lib.hid (bclone_w HV.out (by omega))
      obtain ⟨i0, hi, hz0, hz1, hz2⟩ := info_parts Try.info3
      clear hok hr hrd HV
      go_enter Try.func84, Try.ntmps84
      go_wp2_with (first | (go_at_call 92; refine HW.mono ?_; rintro e w' ⟨rfl, rfl⟩) | (go_at_call 64; refine HC2.out.mono ?_; rintro e w1 ⟨v1, rfl, ho1, hb1⟩))
      obtain ⟨ag, c1, hv1⟩ := own_slice ho1
      subst hv1
      clear HW HC2
      have hag : 0 < xs.length → ∃ g, ag = some ⟨g, 0, none⟩ := fun h => by
        obtain ⟨g, c, e⟩ := own_form ho1 h
        simp only [Value.slice.injEq] at e
        exact ⟨g, e.1⟩
      go_loopw [8, 11] (fun s8 s11 wr => ∃ (i : Nat) (a8 : Option Addr) (c8 : Nat) (L : List Nat), s11 = .int .i64 i ∧ s8 = .slice a8 L.length c8 ∧ x ≤ i ∧ i ≤ y ∧ Hid (L = Ex.cl xs x i) ∧ L.length ≤ n ∧ wr.ownsRow w.heap.size 3 1 (.slice a8 L.length c8) L.length (L.map ei) ∧ wr.ownsRow w.heap.size 5 1 (.slice ag xs.length c1) xs.length ((Ex.puts xs L true).map eb) ∧ Hid (∀ k, (Value.slice a8 L.length c8).ownBlock = some k → (Value.slice ag xs.length c1).ownBlock ≠ some k) ∧ Below w.heap.size w wr) (fun _ s11 _ => y - (intOf s11).toNat)
      case atStart => exact ⟨x, none, 0, [], rfl, rfl, Nat.le_refl _, hxy, (Ex.cl_start _ _).symm, by simp, ⟨by simp, .inl ⟨rfl, rfl⟩⟩, ho1, fun k h => (by cases h), hb1⟩
      case round =>
        obtain ⟨i, a8, c8, L, rfl, rfl, hxi, hiy, HL, hLn, hO, h9, AP, hbl⟩ := hrel
        have hLi : L.length ≤ i - x := by rw [HL.out]; exact Ex.cl_length _ _ _
        by_cases hlt : i < y
        · by_cases hln : L.length < n
          · obtain ⟨g, rfl⟩ := hag (by omega)
            have HC := HG.out i (by omega) wr hbl
            cases hb : Ex.getB xs i with
            | true =>
              rw [hb] at HC
              have HN : Hid (L = Ex.cl xs x (i + 1)) := by rw [Ex.cl_set xs hxi hb]; exact HL.out
              clear hb
              go_wp2_with (go_at_call 93; refine HC.mono ?_; rintro e w' ⟨rfl, rfl⟩)
              go_roundw
              case rel => exact ⟨i + 1, a8, c8, L, by go_num, rfl, by omega, by omega, HN, hLn, hO, h9, AP, hbl⟩
              case measure => simp [intOf]; omega
            | false =>
              rw [hb] at HC
              have HN : Hid (L ++ [i] = Ex.cl xs x (i + 1)) := by rw [Ex.cl_clear xs hxi hb, ← HL.out]; rfl
              have HP : Hid (∀ wq : World, wq.ownsRow w.heap.size 5 1 (.slice (some ⟨g, 0, none⟩) xs.length c1) xs.length ((Ex.puts xs L true).map eb) → Calls Try.prog 82 #[.slice (some ⟨g, 0, none⟩) xs.length c1, .int .i64 i, .bool true] wq fun e w' => e = .returned (.tuple #[]) ∧ w'.ownsRow w.heap.size 5 1 (.slice (some ⟨g, 0, none⟩) xs.length c1) xs.length ((Ex.puts xs (L ++ [i]) true).map eb) ∧ wq.grownBy w' (some g)) := by
                intro wq hq
                have hbm : Bm wq w.heap.size g c1 (Ex.puts xs L true) := by unfold Bm; rw [Ex.length_puts]; exact hq
                have := eput_w w.heap.size g c1 _ (i : Int) true wq hbm (by rw [Ex.length_puts]; omega) (by omega) (by rw [Ex.length_puts]; omega)
                unfold Bm at this
                rw [Ex.length_putB, Ex.length_puts, Int.toNat_natCast, ← Ex.puts_snoc] at this
                exact this
              clear hb HL
              go_wp2_with (first | (go_at_call 93; refine HC.mono ?_; rintro e w' ⟨rfl, rfl⟩) | (at_builtin; refine wpList_append_rd ei (fun _ => rfl) rfl _ _ 100 rfl w.heap.size 3 i0 (.int .i64 0) 8 Try.underlying100 hi hz0 hz1 hz2 rfl _ L.length L rfl (hO.alloc _) (some ⟨wr.heap.size, 0, none⟩) 1 [i] 1 rfl rfl (by simp) (by omega) (Rd.one _ _ _ _ _) (by unfold maxLen; omega) (by omega) (by have := hbl.size; simp; omega) ?_; intro v2 w2 ho2 hs2 hb2; obtain ⟨g2, c2, hv2⟩ := own_form ho2 (by omega); rw [hv2]; rw [hv2] at ho2 hs2; have hlg := (h9.lt g rfl).2; have hne : (Value.slice a8 L.length c8).ownBlock ≠ some g := (fun e => AP.out g e rfl); have hsg := hs2 g (by simp; omega) hne; have h92 := own_keep (h9.alloc (.cells #[.int .i64 i] 3 (0, 0))) (fun k hk => by simp [Value.ownBlock] at hk; subst hk; exact hsg.1); have AP2 := Lib.hid hsg.2; have hbl2 := (hbl.alloc hbl.size (.cells #[.int .i64 i] 3 (0, 0))).trans hb2; clear hv2 hs2 hb2 hne hsg hlg hO h9 AP) | (refine (HP.out _ h92).mono ?_; rintro e w3 ⟨rfl, h93, hgr⟩))
              have hg0 := (h92.lt g rfl).1
              have hO3 := own_keep ho2 (fun k hk => hgr.block k (ho2.lt k hk).2 (fun e => by rw [e] at hk; exact AP2.out hk))
              have hbl3 := hbl2.trans (below_of_grown hgr hg0 hbl2.size)
              have AP3 : Hid (∀ k, (Value.slice (some ⟨g2, 0, none⟩) (L.length + 1) c2).ownBlock = some k → (Value.slice (some ⟨g, 0, none⟩) xs.length c1).ownBlock ≠ some k) := fun k h1 h2 => AP2.out (h1.trans h2.symm)
              clear ho2 h92 hgr hbl2 HP AP2
              go_roundw
              case rel => exact ⟨i + 1, some ⟨g2, 0, none⟩, c2, L ++ [i], by go_num, by rw [List.length_append]; rfl, by omega, by omega, HN, by rw [List.length_append]; show L.length + 1 ≤ n; omega, by rw [List.length_append]; exact hO3, h93, by rw [List.length_append]; exact AP3, hbl3⟩
              case measure => simp [intOf]; omega
          · obtain ⟨h1, rfl, rfl, rfl⟩ : L.length = n ∧ l = L ∧ ys = Ex.puts xs L true ∧ c = 0 := by
              rcases HR.out i hxi hiy (by rw [← HL.out]; exact hLn) (fun _ => by rw [← HL.out]; omega) with h | h
              · rw [← HL.out] at h; omega
              · rw [← HL.out] at h; exact h
            have hS1 := own_fresh hO
            have hS2 := own_fresh (enc := eb) (xs := Ex.puts xs l true) (by rw [Ex.length_puts]; exact h9)
            clear HR HG HL hO h9
            go_wp2
            go_ret3
            exact ⟨_, _, rfl, hS1, hS2, hbl⟩
        · have hR := HR.out i hxi hiy (by rw [← HL.out]; exact hLn) (fun h => absurd h hlt)
          rw [← HL.out] at hR
          rcases hR with ⟨h1, rfl, rfl, rfl⟩ | ⟨h1, rfl, rfl, rfl⟩
          · clear HR HG HL hO h9
            go_wp2
            go_ret3
            exact ⟨_, _, rfl, fun _ _ => Sl.nil _ _, fun _ _ => Sl.nil _ _, hbl⟩
          · have hS1 := own_fresh hO
            have hS2 := own_fresh (enc := eb) (xs := Ex.puts xs l true) (by rw [Ex.length_puts]; exact h9)
            clear HR HG HL hO h9
            go_wp2
            go_ret3
            exact ⟨_, _, rfl, hS1, hS2, hbl⟩
end Go.Proofs.Ytbklmpekpcneeaa

namespace Go.Proofs.Ytbklmpekpcneeaa
open Go.RowKit

set_option maxHeartbeats 1600000 in
theorem ertake_w {v : Value} {xs : List UInt8} {w : World} (x y n : Int) (hv : Sl eb w v xs) (hm : xs.length ≤ 1000) (hx : x ≤ 9223372036854775807) (hn : n ≤ 9223372036854775807) {l : List Nat} {ys : List UInt8} {c : Int} (hr : Ex.take xs x y n = (l, ys, c)) :
    Calls Try.prog 85 #[v, .int .i64 x, .int .i64 y, .int .i64 n] w fun e w' => ∃ v1 v2, e = .returned (.tuple #[v1, v2, .int .i64 c]) ∧ Sl ei w' v1 l ∧ Sl eb w' v2 ys ∧ Below w.heap.size w w' := by
  have HV := Lib.hid hv
  obtain ⟨a, cap, rfl, hc, hcm, hna, hrd⟩ := hv
  have HW := ervalid_w a cap xs.length x y w (by omega)
  cases hok : Ex.okR xs.length x y with
  | false =>
    rw [Ex.take_bad (.inl hok)] at hr
    simp only [Prod.mk.injEq] at hr
    obtain ⟨rfl, rfl, rfl⟩ := hr
    rw [hok] at HW
    clear hok
    go_enter Try.func85, Try.ntmps85
    go_wp2_with (go_at_call 94; refine HW.mono ?_; rintro e w' ⟨rfl, rfl⟩)
    go_ret3
    exact ⟨_, _, rfl, Sl.nil _ _, Sl.nil _ _, Below.refl _ _⟩
  | true =>
    rw [hok] at HW
    by_cases hn1 : n < 1
    · rw [Ex.take_bad (.inr hn1)] at hr
      simp only [Prod.mk.injEq] at hr
      obtain ⟨rfl, rfl, rfl⟩ := hr
      clear hok
      go_enter Try.func85, Try.ntmps85
      go_wp2_with (go_at_call 94; refine HW.mono ?_; rintro e w' ⟨rfl, rfl⟩)
      go_ret3
      exact ⟨_, _, rfl, Sl.nil _ _, Sl.nil _ _, Below.refl _ _⟩
    · obtain ⟨x, y, rfl, rfl, hxy, hy8⟩ := Ex.okR_nat hok
      obtain ⟨n, rfl⟩ := Int.eq_ofNat_of_zero_le (by omega : 0 ≤ n)
      have hn1' : 1 ≤ n := by omega
      have HR : Hid (∀ i, x ≤ i → i ≤ y → (Ex.cl xs x i).length ≤ n → (i < y → (Ex.cl xs x i).length = n) → ((Ex.cl xs x i).length < n ∧ l = [] ∧ ys = [] ∧ c = 13) ∨ ((Ex.cl xs x i).length = n ∧ l = Ex.cl xs x i ∧ ys = Ex.puts xs (Ex.cl xs x i) true ∧ c = 0)) := by
        intro i h1 h2 h3 h4
        by_cases h : (Ex.cl xs x i).length = n
        · right
          rw [Ex.take_some hok hn1' h1 h2 h] at hr
          simp only [Prod.mk.injEq] at hr
          exact ⟨h, hr.1.symm, hr.2.1.symm, hr.2.2.symm⟩
        · left
          have hiy : i = y := by
            by_cases hh : i < y
            · exact absurd (h4 hh) h
            · omega
          subst hiy
          rw [Ex.take_few hok hn1' (by omega)] at hr
          simp only [Prod.mk.injEq] at hr
          exact ⟨by omega, hr.1.symm, hr.2.1.symm, hr.2.2.symm⟩
      have HG := Lib.hid (fun (i : Nat) (hi : (i : Int) ≤ 9223372036854775807) (wr : World) (hbl : Below w.heap.size w wr) => erget_w a cap xs.length xs i wr rfl (by omega) (hrd.below hbl (Nat.le_refl _)) hi)
      obtain ⟨i0, hi, hz0, hz1, hz2⟩ := info_parts Try.info3
      clear hok hr hrd
      go_enter Try.func85, Try.ntmps85
      go_wp2_with (go_at_call 94; refine HW.mono ?_; rintro e w' ⟨rfl, rfl⟩)
      clear HW
      go_loopw [11, 12, 13] (fun s11 s12 s13 wr => ∃ (i : Nat) (a8 : Option Addr) (c8 : Nat) (L : List Nat), s13 = .int .i64 i ∧ s11 = .slice a8 L.length c8 ∧ x ≤ i ∧ i ≤ y ∧ Hid (L = Ex.cl xs x i) ∧ L.length ≤ n ∧ wr.ownsRow w.heap.size 3 1 (.slice a8 L.length c8) L.length (L.map ei) ∧ Hid (∀ w', (∀ b, b < wr.heap.size → (Value.slice a8 L.length c8).ownBlock ≠ some b → w'.heap[b]? = wr.heap[b]?) → Sl eb w' s12 (Ex.puts xs L true)) ∧ Below w.heap.size w wr) (fun _ _ s13 _ => y - (intOf s13).toNat)
      case atStart => exact ⟨x, none, 0, [], rfl, rfl, Nat.le_refl _, hxy, (Ex.cl_start _ _).symm, by simp, ⟨by simp, .inl ⟨rfl, rfl⟩⟩, fun w' h => HV.out.keep fun b hb => h b hb (by simp [Value.ownBlock]), Below.refl _ _⟩
      case round =>
        obtain ⟨i, a8, c8, L, rfl, rfl, hxi, hiy, HL, hLn, hO, h9, hbl⟩ := hrel
        have hLi : L.length ≤ i - x := by rw [HL.out]; exact Ex.cl_length _ _ _
        by_cases hlt : i < y
        · by_cases hln : L.length < n
          · have HC := HG.out i (by omega) wr hbl
            cases hb : Ex.getB xs i with
            | true =>
              rw [hb] at HC
              have HN : Hid (L = Ex.cl xs x (i + 1)) := by rw [Ex.cl_set xs hxi hb]; exact HL.out
              clear hb
              go_wp2_with (go_at_call 54; refine HC.mono ?_; rintro e w' ⟨rfl, rfl⟩)
              go_roundw
              case rel => exact ⟨i + 1, a8, c8, L, by go_num, rfl, by omega, by omega, HN, hLn, hO, h9, hbl⟩
              case measure => simp [intOf]; omega
            | false =>
              rw [hb] at HC
              have HN : Hid (L ++ [i] = Ex.cl xs x (i + 1)) := by rw [Ex.cl_clear xs hxi hb, ← HL.out]; rfl
              have HP : Hid (∀ (wq : World) (v : Value), Sl eb wq v (Ex.puts xs L true) → Calls Try.prog 79 #[v, .int .i64 i, .bool true] wq fun e w' => ∃ v', e = .returned v' ∧ w'.ownsRow wq.heap.size 5 1 v' (Ex.puts xs (L ++ [i]) true).length ((Ex.puts xs (L ++ [i]) true).map eb) ∧ Below wq.heap.size wq w') := by
                intro wq v hq
                have := erput_w (i : Int) true hq (by rw [Ex.length_puts]; omega) (by omega) (by rw [Ex.length_puts]; omega)
                rw [Int.toNat_natCast, ← Ex.puts_snoc] at this
                exact this
              clear hb HL
              go_wp2_with (first | (go_at_call 54; refine HC.mono ?_; rintro e w' ⟨rfl, rfl⟩) | (at_builtin; refine wpList_append_rd ei (fun _ => rfl) rfl _ _ 100 rfl w.heap.size 3 i0 (.int .i64 0) 8 Try.underlying100 hi hz0 hz1 hz2 rfl _ L.length L rfl (hO.alloc _) (some ⟨wr.heap.size, 0, none⟩) 1 [i] 1 rfl rfl (by simp) (by omega) (Rd.one _ _ _ _ _) (by unfold maxLen; omega) (by omega) (by have := hbl.size; simp; omega) ?_; intro v2 w2 ho2 hs2 hb2; obtain ⟨g2, c2, hv2⟩ := own_form ho2 (by omega); rw [hv2]; rw [hv2] at ho2 hs2; have h92 := h9.out w2 (fun b hb hne => by have h := (hs2 b (by simp; omega) hne).1; rw [h]; exact heap_alloc_old _ _ hb); have hbl2 := (hbl.alloc hbl.size (.cells #[.int .i64 i] 3 (0, 0))).trans hb2; clear hv2 hs2 hb2 hO h9) | (refine (HP.out _ _ h92).mono ?_; rintro e w3 ⟨v3, rfl, h93, hgr⟩))
              have hlt2 := ho2.lt g2 rfl
              have hO3 := own_keep ho2 (fun k hk => hgr.block k (ho2.lt k hk).2)
              have hbl3 := hbl2.trans (hgr.mono hbl2.size)
              have HS3 : Hid (∀ w', (∀ b, b < w3.heap.size → (Value.slice (some ⟨g2, 0, none⟩) (L.length + 1) c2).ownBlock ≠ some b → w'.heap[b]? = w3.heap[b]?) → Sl eb w' v3 (Ex.puts xs (L ++ [i]) true)) := fun w' h => Sl.ofOwn (own_keep h93 fun k hk => h k (h93.lt k hk).2 (fun e => by have := (h93.lt k hk).1; simp [Value.ownBlock] at e; omega))
              clear ho2 h92 hgr hbl2 HP h93 hlt2
              go_wp2
              go_roundw
              case rel => exact ⟨i + 1, some ⟨g2, 0, none⟩, c2, L ++ [i], by go_num, by rw [List.length_append]; rfl, by omega, by omega, HN, by rw [List.length_append]; show L.length + 1 ≤ n; omega, by rw [List.length_append]; exact hO3, by rw [List.length_append]; exact HS3, hbl3⟩
              case measure => simp [intOf]; omega
          · obtain ⟨h1, rfl, rfl, rfl⟩ : L.length = n ∧ l = L ∧ ys = Ex.puts xs L true ∧ c = 0 := by
              rcases HR.out i hxi hiy (by rw [← HL.out]; exact hLn) (fun _ => by rw [← HL.out]; omega) with h | h
              · rw [← HL.out] at h; omega
              · rw [← HL.out] at h; exact h
            have hS1 := Sl.ofOwn hO
            have hS2 := h9.out _ (fun _ _ _ => rfl)
            clear HR HG HL hO h9
            go_wp2
            go_ret3
            exact ⟨_, _, rfl, hS1, hS2, hbl⟩
        · have hR := HR.out i hxi hiy (by rw [← HL.out]; exact hLn) (fun h => absurd h hlt)
          rw [← HL.out] at hR
          rcases hR with ⟨h1, rfl, rfl, rfl⟩ | ⟨h1, rfl, rfl, rfl⟩
          · clear HR HG HL hO h9
            go_wp2
            go_ret3
            exact ⟨_, _, rfl, Sl.nil _ _, Sl.nil _ _, hbl⟩
          · have hS1 := Sl.ofOwn hO
            have hS2 := h9.out _ (fun _ _ _ => rfl)
            clear HR HG HL hO h9
            go_wp2
            go_ret3
            exact ⟨_, _, rfl, hS1, hS2, hbl⟩
end Go.Proofs.Ytbklmpekpcneeaa

set_option maxRecDepth 100000
namespace Jr
theorem num_len (n : UInt64) (k : Nat) : (num n k).length = k := by unfold num; simp
theorem num_get (n : UInt64) (k j : Nat) (hj : j < k) : (num n k)[j]? = some (Sum.byte n (k - 1 - j)) := by
  unfold num
  rw [List.getElem?_reverse (by simpa using hj), List.length_map, List.length_range, List.getElem?_map, List.getElem?_range (by omega)]
  rfl
theorem num_step (n : UInt64) (k j : Nat) (hj : j < k) : (num n k).take (j + 1) = (num n k).take j ++ [Sum.byte n (k - 1 - j)] := by
  have h : j < (num n k).length := by rw [num_len]; exact hj
  rw [List.take_succ_eq_append_getElem h]
  have := num_get n k j hj
  rw [List.getElem?_eq_getElem h] at this
  rw [Option.some.inj this]
end Jr
namespace Go.Proofs.Ytbklmpekpcneeaa
open Go.RowKit

theorem start_val : (Sum.start.toNat : Int) = 125762890854254 := by decide
theorem word_val (n : Int) : IntKind.u64.wrap n = ((Sum.word n).toNat : Int) := by
  rw [wrap_u64]
  unfold Sum.word
  rw [UInt64.toNat_ofNat']
  omega
theorem byte_of (h : UInt64) (k : Nat) : (h.toNat : Int) / 2 ^ (8 * k) % 256 = ((Sum.byte h k).toNat : Int) := by
  unfold Sum.byte
  have hp : (2 : Int) ^ (8 * k) = ((256 ^ k : Nat) : Int) := by
    rw [Int.pow_mul, Int.natCast_pow]
    rfl
  rw [hp, UInt8.toNat_ofNat']
  generalize 256 ^ k = q
  rfl

set_option maxHeartbeats 800000 in
theorem sof_w {v : Value} {xs : List UInt8} {w : World} (hv : Sl eb w v xs) : Calls Try.prog 89 #[v] w fun e w' => e = .returned (.int .u64 ((Sum.of xs).toNat : Int)) ∧ Below w.heap.size w w' := by
  obtain ⟨a, c, rfl, -⟩ := id hv
  have H1 : Hid (∀ W, Below w.heap.size w W → Calls Try.prog 97 #[.int .u64 125762890854254, .slice a xs.length c] W fun e w' => e = .returned (.int .u64 ((Sum.sum Sum.start xs).toNat : Int)) ∧ W = w') := fun W hW => by
    have := sfrom_w Sum.start (hv.below hW (Nat.le_refl _))
    rw [start_val] at this
    exact this
  have H2 : Hid (Calls Try.prog 98 #[.slice none 0 0, .int .i64 xs.length] w fun e w' => ∃ v', e = .returned v' ∧ w'.ownsRow w.heap.size 5 1 v' 8 ((Sum.eight xs.length).map eb) ∧ Below w.heap.size w w') := by
    have := eight_w w.heap.size (xs.length : Int) (v := .slice none 0 0) (xs := []) (w := w) (World.ownsRow_nil _ _ _ _) (Nat.le_refl _) (by simp)
    simp only [List.length_nil, Nat.zero_add, List.nil_append] at this
    exact this
  have hlen : ((Sum.eight xs.length).map eb).length = 8 := by unfold Sum.eight Sum.eightN; simp
  have H3 : Hid (∀ W v, Sl eb W v (Sum.eight xs.length) → Calls Try.prog 97 #[.int .u64 ((Sum.sum Sum.start xs).toNat : Int), v] W fun e w' => e = .returned (.int .u64 ((Sum.of xs).toNat : Int)) ∧ W = w') := fun W v h => sfrom_w _ h
  have H4 : Hid (∀ W v, W.ownsRow w.heap.size 5 1 v 8 ((Sum.eight xs.length).map eb) → Sl eb W v (Sum.eight xs.length)) := fun W v h => Sl.ofOwn (e := 5) (base := w.heap.size) (n := 8) h
  clear hv hlen
  generalize Sum.sum Sum.start xs = s at *
  generalize Sum.of xs = r at *
  generalize Sum.eight xs.length = ys at *
  go_enter Try.func89, Try.ntmps89
  go_wp2_with (first
    | (go_at_call 97; (with_reducible refine (H1.out _ (Below.refl _ _)).mono ?_); rintro e w1 ⟨rfl, rfl⟩)
    | (go_at_call 98; (with_reducible refine H2.out.mono ?_); rintro e w2 ⟨v2, rfl, ho2, hb2⟩)
    | (go_at_call 97; (with_reducible refine (H3.out _ _ (H4.out _ _ ho2)).mono ?_); rintro e w3 ⟨rfl, rfl⟩))
  go_ret
  exact ⟨rfl, hb2⟩

set_option maxHeartbeats 800000 in
theorem rof_w {v : Value} {xs : List UInt8} {w : World} (hv : Sl eb w v xs) : Calls Try.prog 91 #[v] w fun e w' => e = .returned (.int .u64 ((Sum.of xs).toNat : Int)) ∧ Below w.heap.size w w' := by
  obtain ⟨a, c, rfl, -⟩ := id hv
  have H1 : Hid (∀ W, Below w.heap.size w W → Calls Try.prog 99 #[.int .u64 125762890854254, .slice a xs.length c] W fun e w' => e = .returned (.int .u64 ((Sum.sum Sum.start xs).toNat : Int)) ∧ W = w') := fun W hW => by
    have := rfrom_w Sum.start (hv.below hW (Nat.le_refl _))
    rw [start_val] at this
    exact this
  have H2 : Hid (Calls Try.prog 100 #[.int .u64 ((Sum.word xs.length).toNat : Int)] w fun e w' => ∃ v', e = .returned v' ∧ Sl eb w' v' (Sum.eight xs.length) ∧ Below w.heap.size w w') := reight_w (Sum.word xs.length)
  have H3 : Hid (∀ W v, Sl eb W v (Sum.eight xs.length) → Calls Try.prog 99 #[.int .u64 ((Sum.sum Sum.start xs).toNat : Int), v] W fun e w' => e = .returned (.int .u64 ((Sum.of xs).toNat : Int)) ∧ W = w') := fun W v h => rfrom_w _ h
  have hwv := word_val xs.length
  clear hv
  generalize Sum.sum Sum.start xs = s at *
  generalize Sum.of xs = r at *
  generalize Sum.eight xs.length = ys at *
  generalize Sum.word xs.length = wd at *
  go_enter Try.func91, Try.ntmps91
  go_wp2_with (first
    | (go_at_call 99; (with_reducible refine (H1.out _ (Below.refl _ _)).mono ?_); rintro e w1 ⟨rfl, rfl⟩)
    | (go_at_call 100; (with_reducible refine H2.out.mono ?_); rintro e w2 ⟨v2, rfl, ho2, hb2⟩)
    | (go_at_call 99; (with_reducible refine (H3.out _ _ ho2).mono ?_); rintro e w3 ⟨rfl, rfl⟩))
  go_ret
  exact ⟨rfl, hb2⟩

set_option maxHeartbeats 800000 in
theorem number_w (n : UInt64) (k : Nat) (hk8 : k ≤ 8) (w : World) :
    Calls Try.prog 90 #[.int .u64 (n.toNat : Int), .int .i64 (k : Int)] w fun e w' => ∃ v', e = .returned v' ∧ w'.ownsRow w.heap.size 5 1 v' k ((Jr.num n k).map eb) ∧ Below w.heap.size w w' := by
  obtain ⟨i0, hi, hz0, hz1, hz2⟩ := info_parts Try.info5
  go_enter Try.func90, Try.ntmps90
  go_wp2
  go_loopw [5, 6] (fun s5 i wr => ∃ (j : Nat) (v : Value), v = s5 ∧ i = .int .i64 ((k : Int) - 1 - (j : Int)) ∧ j ≤ k ∧ wr.ownsRow w.heap.size 5 1 v j (((Jr.num n k).take j).map eb) ∧ Below w.heap.size w wr) (fun _ i _ => (intOf i + 1).toNat)
  case atStart => exact ⟨0, _, rfl, by go_num, Nat.zero_le _, World.ownsRow_nil _ _ _ _, Below.refl _ _⟩
  case round =>
    obtain ⟨j, v, rfl, rfl, hj, ho, hbl⟩ := hrel
    obtain ⟨a1, c1, rfl⟩ := own_slice ho
    by_cases hlt : j < k
    · obtain ⟨m, hm⟩ : ∃ m : Nat, (k : Int) - 1 - (j : Int) = (m : Int) := ⟨k - 1 - j, by omega⟩
      have hmk : k - 1 - j = m := by omega
      have hm8 : m < 8 := by omega
      have hbv := byte_of n m
      have HST := Lib.hid (Jr.num_step n k j hlt)
      rw [hmk] at HST
      have HM := Lib.hid hm
      have hbs := hbl.size
      have hl : ((Jr.num n k).take j).length = j := by rw [List.length_take, Jr.num_len]; omega
      have HLN := Lib.hid hl
      rw [hm]
      clear hm hmk hl
      generalize Sum.byte n m = c at *
      generalize (Jr.num n k).take j = X at *
      go_wp2_with (at_builtin; refine wpList_append_rd eb (fun _ => rfl) rfl _ _ 25 rfl w.heap.size 5 i0 (.int .u8 0) 1 Try.underlying25 hi hz0 hz1 hz2 rfl (.slice a1 j c1) j X rfl (ho.alloc _) (some ⟨wr.heap.size, 0, none⟩) 1 [c] 1 rfl rfl (by simp) (by omega) (Rd.one eb wr c _ _) (by unfold maxLen; omega) (by omega) (by simp; omega) ?_; intro v7 w7 ho7 hs7 hb7)
      go_roundw
      case rel => exact ⟨j + 1, _, rfl, by have := HM.out; go_num, by omega, by rw [HST.out]; exact ho7, hbl.trans ((Below.refl w.heap.size wr).alloc (by omega) _ |>.trans hb7)⟩
      case measure => simp [intOf]
    · obtain rfl : j = k := by omega
      have HT : Hid ((Jr.num n j).take j = Jr.num n j) := List.take_of_length_le (by rw [Jr.num_len]; exact Nat.le_refl _)
      rw [show (j : Int) - 1 - (j : Int) = -1 by omega]
      go_wp2
      go_ret
      exact ⟨_, rfl, by rw [HT.out] at ho; exact ho, hbl⟩
end Go.Proofs.Ytbklmpekpcneeaa

set_option maxRecDepth 100000
namespace Go.Proofs.Ytbklmpekpcneeaa
open Go.RowKit Go.Shelf
attribute [local go_sem] Oper.semAt_some

/-- The places from the last one down. -/
def down (m k : Nat) : List Nat := (List.range k).map fun t => m - 1 - t
theorem down_succ (m k : Nat) : down m (k + 1) = down m k ++ [m - 1 - k] := by simp [down, List.range_succ]
/-- A place and whatever lies there. -/
abbrev Bx2 (m : Nat) := { i : Nat // i < m } × Value
def bx2 {m : Nat} (x : Bx2 m) : Array Value := #[.int .i64 (x.1.1 : Int), x.2]
def fsts {m : Nat} (l : List (Bx2 m)) : List Nat := l.map fun x => x.1.1
theorem fsts_snoc {m : Nat} (l : List (Bx2 m)) (x : Bx2 m) : fsts (l ++ [x]) = fsts l ++ [x.1.1] := by simp [fsts]

/-- What a round keeps: the box of the slice, and that the row's cells are there. -/
def KpB (Bs g : Nat) (W W' : World) : Prop := W'.cell? ⟨Bs, 0, none⟩ = W.cell? ⟨Bs, 0, none⟩ ∧ ∀ j v, W.cell? ⟨g, j, none⟩ = some v → ∃ v', W'.cell? ⟨g, j, none⟩ = some v'
theorem kpB_t {Bs g : Nat} {A B C : World} (h : KpB Bs g A B) (k : KpB Bs g B C) : KpB Bs g A C := ⟨k.1.trans h.1, fun j v hv => by
  obtain ⟨v', h'⟩ := h.2 j v hv
  exact k.2 j v' h'⟩
theorem kpB_b {Bs g : Nat} {w : World} (h1 : Bs < w.heap.size) (h2 : g < w.heap.size) (W : World) (l : Nat) (o o' : Obj) (hl : w.heap.size ≤ l) (_ : W.heap[l]? = some o) (_ : o.isCells = false) (_ : o.isWalk = false) : KpB Bs g W (W.putObj l o') :=
  ⟨World.cell?_of_block (a := ⟨Bs, 0, none⟩) (World.putObj_heap_other (show Bs ≠ l by omega)), fun j v hv => ⟨v, by rw [World.cell?_of_block (a := ⟨g, j, none⟩) (World.putObj_heap_other (show g ≠ l by omega))]; exact hv⟩⟩

set_option maxRecDepth 100000 in
set_option maxHeartbeats 2000000 in
theorem backward1_in (n l Bs g off m cap : Nat) (hm : m ≤ 1000) (hmc : m ≤ cap) (hcm : cap ≤ maxLen) (J Jx : List (Bx2 m) → World → Prop) (W : World)
    (hY : ∀ pre x W, J pre W → pre.length < m → YieldAt Fence.wide (n - 1) Try.prog l (bx2 x) W fun e W' =>
      (e = .returned (.bool true) ∧ J (pre ++ [x]) W' ∧ KpB Bs g W W') ∨ (e = .returned (.bool false) ∧ Jx (pre ++ [x]) W'))
    (hBs : W.cell? ⟨Bs, 0, none⟩ = some (.slice (some ⟨g, off, none⟩) m cap)) (hg : ∀ j, j < m → ∃ v, W.cell? ⟨g, off + j, none⟩ = some v) (h0 : J [] W) :
    CallsIn Fence.wide n Try.prog 101 #[.func (.yield l) #[] #[], .pointer (some ⟨Bs, 0, none⟩)] W fun e W' => (∃ v, e = .returned v) ∧
      ((∃ ys, fsts ys = down m m ∧ J ys W') ∨ (∃ pre, True ∧ Jx pre W')) := by
  unfold maxLen at hcm
  refine callsIn_of_wp Try.func101 rfl trivial ?_ rfl
  simp only [Try.ntmps101, List.size_toArray, List.length_cons, List.length_nil, Nat.reduceAdd, Nat.reduceSub, Array.replicate_succ, Array.replicate_zero, List.push_toArray, List.append_toArray, List.nil_append, List.cons_append]
  gi_wp2
  gi_loopw [3] (fun i wr => ∃ (k : Nat) (ys : List (Bx2 m)), k ≤ m ∧ i = .int .i64 ((m : Int) - 1 - (k : Int)) ∧ fsts ys = down m k ∧ J ys wr ∧ KpB Bs g W wr)
    (fun i _ => (intOf i + 1).toNat)
  case atStart => exact ⟨0, [], Nat.zero_le _, by go_num, rfl, h0, rfl, fun j v h => ⟨v, h⟩⟩
  case round =>
    obtain ⟨k, ys, hk, rfl, hys, hJs, hnx⟩ := hrel
    have hc1 := hnx.1.trans hBs
    by_cases hlt : k < m
    · obtain ⟨q, hq⟩ : ∃ q : Nat, (m : Int) - 1 - (k : Int) = (q : Int) := ⟨m - 1 - k, by omega⟩
      have hqm : q < m := by omega
      have hqk : m - 1 - k = q := by omega
      obtain ⟨v0, hv0⟩ := hg q hqm
      obtain ⟨v, hv⟩ := hnx.2 _ _ hv0
      have hlen : ys.length = k := by
        have := congrArg List.length hys
        simpa [fsts, down] using this
      obtain ⟨fn, tmps, assign, body, hy, hR⟩ := hY _ (⟨q, hqm⟩, v) wr hJs (by rw [hlen]; exact hlt)
      have HQ := Lib.hid hq
      have HQK := Lib.hid hqk
      have HYS := Lib.hid hys
      simp only [bx2] at hy
      have q0 : (0 : Int) ≤ (q : Int) := by omega
      have q1 : (q : Int) < (m : Int) := by omega
      rw [hq]
      clear hq hqk hys hlen hv0
      gi_wp2
      refine ⟨fun h => absurd h (by simp [Fence.wide]), hR.mono ?_⟩
      rintro e W3 (⟨rfl, hJ3, hk3⟩ | ⟨rfl, hJx3⟩)
      · have hn3 := kpB_t hnx hk3
        have hc13 := hn3.1.trans hBs
        gi_wp2
        go_roundw
        case rel => exact ⟨k + 1, ys ++ [(⟨q, hqm⟩, v)], by omega, by have := HQ.out; go_num, by rw [fsts_snoc, down_succ, HYS.out, HQK.out], hJ3, hn3⟩
        case measure => simp [intOf]
      · gi_wp2
        refine bodyPost_ret (results_none rfl _ _ _) rfl ?_
        exact ⟨⟨_, rfl⟩, .inr ⟨_, trivial, hJx3⟩⟩
    · obtain rfl : k = m := by omega
      rw [show (k : Int) - 1 - (k : Int) = -1 by omega]
      gi_wp2
      go_end0
      exact ⟨⟨_, rfl⟩, .inl ⟨ys, hys, hJs⟩⟩

/-- The row behind some rounds. -/
def rowOf {m : Nat} (off : Nat) (n : UInt64) (cur : List Value) (l : List (Bx2 m)) : Nat × List Value := l.foldl (fun s x => (s.1 + 1, s.2.set (off + x.1.1) (eb (Sum.byte n s.1)))) (0, cur)
theorem rowOf_snoc {m : Nat} (off : Nat) (n : UInt64) (cur : List Value) (l : List (Bx2 m)) (x : Bx2 m) : rowOf off n cur (l ++ [x]) = ((rowOf off n cur l).1 + 1, (rowOf off n cur l).2.set (off + x.1.1) (eb (Sum.byte n (rowOf off n cur l).1))) := by
  unfold rowOf
  rw [List.foldl_append]
  rfl
theorem snoc_ind {α : Type} {P : List α → Prop} (h0 : P []) (h1 : ∀ l x, P l → P (l ++ [x])) (l : List α) : P l := by
  have h : ∀ r : List α, P r.reverse := fun r => by
    induction r with
    | nil => exact h0
    | cons x r ih => rw [List.reverse_cons]; exact h1 _ _ ih
  have h' := h l.reverse
  rwa [List.reverse_reverse] at h'
theorem rowOf_len {m : Nat} (off : Nat) (n : UInt64) (cur : List Value) (l : List (Bx2 m)) : (rowOf off n cur l).1 = l.length ∧ (rowOf off n cur l).2.length = cur.length := by
  induction l using snoc_ind with
  | h0 => exact ⟨rfl, rfl⟩
  | h1 l x ih => rw [rowOf_snoc]; simp [ih]
theorem down_len (m k : Nat) : (down m k).length = k := by simp [down]
theorem rowOf_get {m : Nat} (off : Nat) (n : UInt64) (cur : List Value) (hc : off + m ≤ cur.length) (l : List (Bx2 m)) : ∀ k, fsts l = down m k → k ≤ m → ∀ j, (rowOf off n cur l).2[j]? = if off + (m - k) ≤ j ∧ j < off + m then some (eb (Sum.byte n (m - 1 - (j - off)))) else cur[j]? := by
  induction l using snoc_ind with
  | h0 =>
    intro k hk hkm j
    have : k = 0 := by
      have := congrArg List.length hk
      rw [down_len] at this
      simpa [fsts] using this.symm
    subst this
    rw [if_neg (by omega)]
    rfl
  | h1 l x ih =>
    intro k hk hkm j
    have hl : l.length + 1 = k := by
      have := congrArg List.length hk
      rw [down_len] at this
      simpa [fsts] using this
    subst hl
    rw [fsts_snoc, down_succ] at hk
    obtain ⟨e1, e2⟩ := List.append_inj' hk rfl
    have e3 : x.1.1 = m - 1 - l.length := by simpa using e2
    rw [rowOf_snoc]
    simp only
    rw [(rowOf_len off n cur l).1, List.getElem?_set, e3, ih l.length e1 (by omega) j, (rowOf_len off n cur l).2]
    by_cases h : off + (m - 1 - l.length) = j
    · rw [if_pos h, if_pos (by omega), if_pos (by omega), show m - 1 - (j - off) = l.length by omega]
    · rw [if_neg h]
      by_cases h2 : off + (m - l.length) ≤ j ∧ j < off + m
      · rw [if_pos h2, if_pos (by omega)]
      · rw [if_neg h2, if_neg (by omega)]
theorem rowOf_all {m : Nat} (off : Nat) (n : UInt64) (cur : List Value) (hc : off + m ≤ cur.length) (l : List (Bx2 m)) (h : fsts l = down m m) : (rowOf off n cur l).2 = splice cur off ((Jr.num n m).map eb) := by
  apply List.ext_getElem?
  intro j
  have hl : ((Jr.num n m).map eb).length = m := by rw [List.length_map, Jr.num_len]
  rw [rowOf_get off n cur hc l m h (Nat.le_refl _) j, splice_get _ _ _ (by rw [hl]; exact hc), hl]
  by_cases h1 : j < off
  · rw [if_neg (by omega), if_pos h1]
  · rw [if_neg h1]
    by_cases h2 : j < off + m
    · rw [if_pos (by omega), if_pos h2, List.getElem?_map, Jr.num_get n m (j - off) (by omega)]
      rfl
    · rw [if_neg (by omega), if_neg h2]

theorem shiftP (n : UInt64) (k : Nat) : (shiftN n k) / 256 = shiftN n (k + 1) := by
  unfold shiftN
  rw [Nat.pow_succ, ← Nat.div_div_eq_div_mul]
  generalize n.toNat / 256 ^ k = q
  omega
theorem byteP (n : UInt64) (k : Nat) : (shiftN n k) % 256 = ((Sum.byte n k).toNat : Int) := by
  unfold shiftN Sum.byte
  generalize n.toNat / 256 ^ k = q
  rw [UInt8.toNat_ofNat']
  omega

theorem own_bk {β : Type} {B b : Nat} {T : TypeId} (f : β → List Value) (hb : b < B) : OwnFrom B (fun (s : β) W => Bk W b T (f s)) := fun s W W' row hs hg hr =>
  hs.keep (hg.block b hs.lt (fun e => by have := (hr b e.symm).1; omega))
theorem own_grown {β : Type} {B g : Nat} {w : World} (hB : w.heap.size ≤ B) : OwnFrom B (fun (_ : β) W => w.grownBy W (some g)) := fun _ W W' row hs hg hr =>
  ⟨hg.os.trans hs.os, hg.tape.trans hs.tape, hg.output.trans hs.output, Nat.le_trans hs.size hg.size, fun i hi hne => (hg.block i (Nat.lt_of_lt_of_le hi hs.size) (fun e => by have := (hr i e.symm).1; omega)).trans (hs.block i hi hne)⟩

theorem grown_new {w W : World} {g b i : Nat} {u : Value} (h : w.grownBy W (some g)) (hb : w.heap.size ≤ b) : w.grownBy (W.setCell ⟨b, i, none⟩ u) (some g) :=
  ⟨h.os, h.tape, h.output, by simpa [World.setCell] using h.size, fun k hk hne => (Below.heap_setCell _ _ _ _ (show k ≠ b by omega)).trans (h.block k hk hne)⟩
theorem grown_own {w W : World} {g i : Nat} {u : Value} (h : w.grownBy W (some g)) : w.grownBy (W.setCell ⟨g, i, none⟩ u) (some g) :=
  ⟨h.os, h.tape, h.output, by simpa [World.setCell] using h.size, fun k hk hne => (Below.heap_setCell _ _ _ _ (show k ≠ g from fun e => hne (by rw [e]))).trans (h.block k hk hne)⟩

theorem cell_far {W : World} {b c i j : Nat} {u : Value} (h : c ≠ b) : (W.setCell ⟨b, i, none⟩ u).cell? ⟨c, j, none⟩ = W.cell? ⟨c, j, none⟩ :=
  World.cell?_of_block (a := ⟨c, j, none⟩) (Below.heap_setCell W ⟨b, i, none⟩ u c h)

set_option maxHeartbeats 1000000 in
theorem backward_in (n : Nat) (a : Option Addr) (len cap : Nat) (w : World) :
    CallsIn Fence.wide n Try.prog 96 #[.slice a len cap] w fun e w' => e = .returned (.func (.func 101) #[] #[.pointer (some ⟨w.heap.size, 0, none⟩)]) ∧ w' = w.alloc (.cells #[.slice a len cap] 25 (0, 0)) := by
  refine callsIn_of_wp Try.func96 rfl trivial ?_ rfl
  simp only [Try.ntmps96, List.size_toArray, List.length_cons, List.length_nil, Nat.reduceAdd, Nat.reduceSub, Array.replicate_succ, Array.replicate_zero, List.push_toArray, List.append_toArray, List.nil_append, List.cons_append]
  gi_wp2
  go_ret
  exact ⟨rfl, rfl⟩

theorem backward_stops (n : Nat) (Bs g off m cap : Nat) (hm : m ≤ 1000) (hmc : m ≤ cap) (hcm : cap ≤ maxLen) (w : World) (hB : Bs < w.heap.size) (hgw : g < w.heap.size)
    (hBs : w.cell? ⟨Bs, 0, none⟩ = some (.slice (some ⟨g, off, none⟩) m cap)) (hg : ∀ j, j < m → ∃ v, w.cell? ⟨g, off + j, none⟩ = some v) :
    SeqStopsK Fence.wide n Try.prog 101 #[.pointer (some ⟨Bs, 0, none⟩)] (bx2 (m := m)) (KpB Bs g) (fun ys => fsts ys = down m m) (fun _ => True) m w := fun l J Jx W hW _ _ hY h0 =>
  backward1_in n l Bs g off m cap hm hmc hcm J Jx W hY ((hW.cell (p := ⟨Bs, 0, none⟩) hB).trans hBs) (fun j hj => by
    obtain ⟨v, hv⟩ := hg j hj
    exact ⟨v, (hW.cell (p := ⟨g, off + j, none⟩) hgw).trans hv⟩) h0

set_option maxRecDepth 100000 in
set_option maxHeartbeats 2000000 in
theorem put_in (n : Nat) (hn : 4 ≤ n) (g off m cap : Nat) (hm : m ≤ 1000) (hmc : m ≤ cap) (hcm : cap ≤ maxLen) (h : UInt64) (cur : List Value) (hfit : off + m ≤ cur.length) (w : World) (hbk : Bk w g 5 cur) :
    CallsIn Fence.wide n Try.prog 88 #[.slice (some ⟨g, off, none⟩) m cap, .int .u64 (h.toNat : Int)] w fun e W' => e = .returned (.tuple #[]) ∧ Bk W' g 5 (splice cur off ((Jr.num h m).map eb)) ∧ w.grownBy W' (some g) := by
  have h1 : 1 ≤ n := by omega
  have hgw := hbk.lt
  have HB := backward_in (n - 1) (some ⟨g, off, none⟩) m cap ((w.alloc (.cells #[.slice (some ⟨g, off, none⟩) m cap] 25 (0, 0))).alloc (.cells #[.int .u64 (h.toNat : Int)] 126 (0, 0)))
  obtain ⟨W0, hW0⟩ : ∃ W0, W0 = ((w.alloc (.cells #[.slice (some ⟨g, off, none⟩) m cap] 25 (0, 0))).alloc (.cells #[.int .u64 (h.toNat : Int)] 126 (0, 0))).alloc (.cells #[.slice (some ⟨g, off, none⟩) m cap] 25 (0, 0)) := ⟨_, rfl⟩
  have hsz : W0.heap.size = w.heap.size + 3 := by rw [hW0]; simp
  have b0 : Bk W0 w.heap.size 25 [.slice (some ⟨g, off, none⟩) m cap] := by rw [hW0]; exact ((Bk.new w _ [_]).alloc _).alloc _
  have b1 : Bk W0 (w.heap.size + 1) 126 [.int .u64 (h.toNat : Int)] := by rw [hW0]; exact (Bk.newAt _ _ [_] (by simp)).alloc _
  have b2 : Bk W0 (w.heap.size + 1 + 1) 25 [.slice (some ⟨g, off, none⟩) m cap] := by rw [hW0]; exact Bk.newAt _ _ [_] (by simp)
  have bg : Bk W0 g 5 cur := by rw [hW0]; exact ((hbk.alloc _).alloc _).alloc _
  have hl : w.grownBy W0 (some g) := by rw [hW0]; exact grown_of_below (((low_alloc _ _).alloc (by simp) _).alloc (by simp; omega) _) _
  have hcells : ∀ j, j < m → ∃ v, W0.cell? ⟨g, off + j, none⟩ = some v := fun j hj => by
    rw [bg.cell]
    exact ⟨_, List.getElem?_eq_getElem (by omega)⟩
  have HALL := Lib.hid (rowOf_all (m := m) off h cur hfit)
  have HLEN := Lib.hid (fun l => (rowOf_len (m := m) off h cur l))
  have hz := shiftN_zero h
  rw [← hz] at b1
  have HZ := Lib.hid hz
  have HSN := Lib.hid (fun l x => rowOf_snoc (m := m) off h cur l x)
  rw [← hW0] at HB
  clear hz hbk hW0
  refine callsIn_of_wp_marks Try.func88 rfl trivial ?_ rfl
  simp only [Try.ntmps88, List.size_toArray, List.length_cons, List.length_nil, Nat.reduceAdd, Nat.reduceSub, Array.replicate_succ, Array.replicate_zero, List.push_toArray, List.append_toArray, List.nil_append, List.cons_append]
  gi_wp2_with (refine ⟨trivial, ?_⟩; gi_at_call 96; refine HB.mono ?_; rintro e w1 ⟨rfl, hw1⟩; rw [hw1]; clear hw1)
  clear HB
  refine wpIn_rangeFunc_ownG rfl h1 (gf := 101) (lb := #[.pointer (some ⟨w.heap.size + 1 + 1, 0, none⟩)]) rfl trivial (enters_of Try.func101 (by kernel_rfl) rfl)
    (backward_stops (n - 1) (w.heap.size + 1 + 1) g off m cap hm hmc hcm W0 b2.lt bg.lt (b2.cell 0) hcells) kpB_t (kpB_b b2.lt bg.lt) (Below.refl _ _) (fun _ => rfl)
    (fun (pre : List (Bx2 m)) W => (Bk W g 5 (rowOf off h cur pre).2 ∧ Bk W w.heap.size 25 [.slice (some ⟨g, off, none⟩) m cap] ∧ Bk W (w.heap.size + 1) 126 [.int .u64 (shiftN h pre.length)]) ∧ w.grownBy W (some g))
    (fun _ _ _ => False)
    (OwnFrom.and (OwnFrom.and (own_bk _ bg.lt) (OwnFrom.and (own_bk _ b0.lt) (own_bk _ b1.lt))) (own_grown (by omega)))
    (fun _ _ _ _ _ hs _ _ => hs)
    ⟨⟨bg, b0, b1⟩, hl⟩
    (fun x => { tmps := #[.slice (some ⟨g, off, none⟩) m cap, .int .u64 (h.toNat : Int), .pointer (some ⟨w.heap.size, 0, none⟩), .pointer (some ⟨w.heap.size + 1, 0, none⟩), .int .i64 (x.1.1 : Int), .slice (some ⟨g, off, none⟩) m cap, .func (.func 101) #[] #[.pointer (some ⟨w.heap.size + 1 + 1, 0, none⟩)], .int .i64 (x.1.1 : Int), x.2, undef, undef, undef, undef, undef, undef, undef], defers := [] }) ?assign ?body ?done ?stop
  case assign =>
    rintro l ⟨⟨i, hi⟩, v⟩ W K hK
    simp only [bx2]
    gi_wp2
    exact hK
  case body =>
    rintro l pre ⟨⟨i, hi⟩, v⟩ W ⟨⟨k0, k1, k2⟩, hG⟩ hlt
    have c0 := k1.cell 0
    have c1 := k2.cell 0
    have z1 := k2.frozen 0
    have zg := k0.frozen (off + i)
    have HL1 := (HLEN.out pre).1
    have HL2 := (HLEN.out pre).2
    have cg := k0.cell (off + i)
    rw [List.getElem?_eq_getElem (by rw [HL2]; omega)] at cg
    have HS := HSN.out pre (⟨i, hi⟩, v)
    have hbp := byteP h pre.length
    have hsp := shiftP h pre.length
    simp only [List.getElem?_cons_zero] at c0 c1
    have hne1 : w.heap.size + 1 ≠ g := by omega
    have hne2 : w.heap.size ≠ g := by omega
    have hne3 : w.heap.size + 1 + 1 ≠ g := by omega
    gi_wp2
    have kg := (k0.set (off + i) (.int .u8 ((Sum.byte h pre.length).toNat : Int))).far (p := ⟨w.heap.size + 1, 0, none⟩) (Ne.symm hne1) (.int .u64 (shiftN h (pre.length + 1)))
    have kB := (k1.far (p := ⟨g, off + i, none⟩) hne2 (.int .u8 ((Sum.byte h pre.length).toNat : Int))).far (p := ⟨w.heap.size + 1, 0, none⟩) (by simp) (.int .u64 (shiftN h (pre.length + 1)))
    have kN := (k2.far (p := ⟨g, off + i, none⟩) hne1 (.int .u8 ((Sum.byte h pre.length).toNat : Int))).set 0 (.int .u64 (shiftN h (pre.length + 1)))
    refine ⟨((KeepsOthers.setCell _ _ _).trans (KeepsOthers.setCell _ _ _)).from _, ⟨?_, ?_⟩, ⟨?_, kB, ?_⟩, ?_⟩
    · rw [cell_far (show w.heap.size + 1 + 1 ≠ w.heap.size + 1 by omega), cell_far hne3]
    · intro j v0 hv0
      rw [kg.cell]
      rw [k0.cell] at hv0
      have := (List.getElem?_eq_some_iff.1 hv0).1
      exact ⟨_, List.getElem?_eq_getElem (by rw [List.length_set]; exact this)⟩
    · rw [HS, HL1]
      exact kg
    · rw [List.length_append]
      exact kN
    · exact grown_new (grown_own hG) (by omega)
  case done =>
    rintro D ys W hD hys ⟨⟨k0, k1, k2⟩, hG⟩ hK
    rw [HALL.out ys hys] at k0
    gi_wp2
    refine ⟨by simp, .inl ⟨_, _, rfl, run_takeDeferred hK, ?_⟩⟩
    have hDg : g ≠ D := by omega
    exact ⟨_, results_none rfl _ _ _, rfl, k0.keep (World.putObj_heap_other hDg), hG.os, hG.tape, hG.output, by simpa using hG.size, fun k hk hne => (World.putObj_heap_other (show k ≠ D by omega)).trans (hG.block k hk hne)⟩
  case stop =>
    rintro D c pre W _ _ h _
    exact h.elim

/-- put writes the number into the part of a block. -/
theorem put_w (g off m cap : Nat) (hm : m ≤ 1000) (hmc : m ≤ cap) (hcm : cap ≤ maxLen) (h : UInt64) (cur : List Value) (hfit : off + m ≤ cur.length) (w : World) (hbk : Bk w g 5 cur) :
    Calls Try.prog 88 #[.slice (some ⟨g, off, none⟩) m cap, .int .u64 (h.toNat : Int)] w fun e W' => e = .returned (.tuple #[]) ∧ Bk W' g 5 (splice cur off ((Jr.num h m).map eb)) ∧ w.grownBy W' (some g) :=
  (callsIn_wide (n := 4)).1 (put_in 4 (by omega) g off m cap hm hmc hcm h cur hfit w hbk)
end Go.Proofs.Ytbklmpekpcneeaa

namespace Jr
theorem get_step (l : List UInt8) (k : Nat) (hk : k < l.length) : get (l.take (k + 1)) = (get (l.take k) <<< 8) ||| l[k].toUInt64 := by
  unfold get
  rw [List.take_succ_eq_append_getElem hk, List.foldl_append]
  rfl
end Jr
namespace Go.Proofs.Ytbklmpekpcneeaa
open Go.RowKit

theorem or_u64 (a b : UInt64) : bits BinOp.or IntKind.u64 (a.toNat : Int) (b.toNat : Int) = ((a ||| b).toNat : Int) := by
  have ha := a.toNat_lt
  have hb := b.toNat_lt
  have h1 : (BitVec.ofInt 64 (a.toNat : Int)).toNat = a.toNat := by
    rw [BitVec.ofInt_natCast, BitVec.toNat_ofNat]; exact Nat.mod_eq_of_lt ha
  have h2 : (BitVec.ofInt 64 (b.toNat : Int)).toNat = b.toNat := by
    rw [BitVec.ofInt_natCast, BitVec.toNat_ofNat]; exact Nat.mod_eq_of_lt hb
  show IntKind.u64.wrap ((BitVec.ofInt 64 (a.toNat : Int) ||| BitVec.ofInt 64 (b.toNat : Int)).toNat : Int) = _
  rw [BitVec.toNat_or, h1, h2, UInt64.toNat_or]
  have := Nat.or_lt_two_pow ha hb
  exact wrap_u64_in _ (by omega) (by omega)
theorem shl8_u64 (q : UInt64) : IntKind.u64.wrap ((q.toNat : Int) * 256) = ((q <<< 8).toNat : Int) := by
  rw [wrap_u64, UInt64.toNat_shiftLeft]
  have : (8 : UInt64).toNat % 64 = 8 := by decide
  rw [this, Nat.shiftLeft_eq]
  omega

end Go.Proofs.Ytbklmpekpcneeaa

namespace Go.Proofs.Ytbklmpekpcneeaa
open Go.RowKit

section
variable {P : Program} {w : World} {ops : Array Oper} {rest : List Oper} {o : Oper} {a : Act} {Q : Exit → Act → World → Prop}
theorem run_copy_str (dT sT ty elem : TypeId) (hu : P.underlying dT = some (.slice elem)) (hsz : (P.info? elem).map (·.size) = some 1) (g off dLen dCap : Nat) (s : ByteArray) (bs : List UInt8) (hs : s.data.toList = bs)
    (cur : List Value) (t : TypeId) (hg : Bk w g t cur) (hle : bs.length ≤ dLen) (hfit : off + bs.length ≤ cur.length) :
    ∃ w', (Builtin.copy_ #[dT, sT] ty #[.slice (some ⟨g, off, none⟩) dLen dCap, .string s]).run P w = .ok (goInt bs.length) w' ∧ Bk w' g t (splice cur off (bs.map eb)) ∧ w.grownBy w' (some g) := by
  have hsl : s.size = bs.length := by rw [Lib.size_eq, hs]
  have hrun := Lib.run_copy_row_string (P := P) w dT sT ty elem g off dLen dCap s cur.toArray t hu hsz hg (by omega) (by simpa [hsl] using hfit)
  rw [hsl] at hrun
  refine ⟨_, hrun, ?_, ⟨rfl, rfl, rfl, by simp [World.setRow], fun k _ hk => setRow_other w g k _ (fun e => hk (by rw [e]))⟩⟩
  unfold Bk
  rw [setRow_heap w g cur.toArray _ t _ hg, hs]
  simp only [splice, List.length_map, List.append_assoc]
  rfl

theorem wpList_copy_str (hgd : o.guard = none) (d x : Operand) (dT sT : TypeId) (ho : o.op = .call { callee := .builtin .copy, args := #[d, x], argTypes := #[dT, sT] }) (elem : TypeId) (hu : P.underlying dT = some (.slice elem)) (hsz : (P.info? elem).map (·.size) = some 1)
    (g off dLen dCap : Nat) (s : ByteArray) (bs : List UInt8) (hs : s.data.toList = bs) (hd : a.eval d = .slice (some ⟨g, off, none⟩) dLen dCap) (hx : a.eval x = .string s)
    (cur : List Value) (t : TypeId) (hg : Bk w g t cur) (hle : bs.length ≤ dLen) (hfit : off + bs.length ≤ cur.length)
    (h : ∀ w', Bk w' g t (splice cur off (bs.map eb)) → w.grownBy w' (some g) → wpList P ops Q rest (a.put o.dst (goInt bs.length)) w') : wpList P ops Q (o :: rest) a w := by
  refine wpList_plain hgd fun K hK => ?_
  obtain ⟨w', hrun, h1, h2⟩ := run_copy_str (P := P) (w := w) dT sT o.type elem hu hsz g off dLen dCap s bs hs cur t hg hle hfit
  unfold Oper.wp
  simp only [execOp, ho, resolve, invoke, builtin, Sem.run_bind, Sem.run_pure, Result.andThen_ok, List.map_toArray, List.map_cons, List.map_nil, hd, hx, hrun]
  exact hK _ _ (h w' h1 h2)
end
end Go.Proofs.Ytbklmpekpcneeaa
namespace Jr
/-- The eleven entries behind k rounds. -/
def ents (bl : List Int) (k : Nat) : List UInt8 := (List.range 11).map fun i => if h : i < bl.length ∧ i < k then ib (bl[i]'h.1) else 0
theorem ents_len (bl : List Int) (k : Nat) : (ents bl k).length = 11 := by simp [ents]
theorem ents_zero (bl : List Int) : ents bl 0 = List.replicate 11 0 := by
  unfold ents
  apply List.ext_getElem (by simp)
  intro i h1 h2
  simp only [List.getElem_map, List.getElem_replicate]
  rw [dif_neg (by omega)]
theorem ents_step (bl : List Int) (k : Nat) (hk : k < bl.length) : (ents bl k).set k (ib bl[k]) = ents bl (k + 1) := by
  apply List.ext_getElem (by simp [ents])
  intro i h1 h2
  rw [List.getElem_set]
  by_cases e : k = i
  · subst e
    rw [if_pos rfl]
    simp [ents, hk]
  · rw [if_neg e]
    simp only [ents, List.getElem_map, List.getElem_range]
    by_cases h : i < bl.length ∧ i < k
    · rw [dif_pos h, dif_pos ⟨h.1, by omega⟩]
    · rw [dif_neg h, dif_neg (by omega)]
theorem ents_all (bl : List Int) : ents bl bl.length = (List.range 11).map fun i => if h : i < bl.length then ib bl[i] else 0 := by
  unfold ents
  apply List.map_congr_left
  intro i _
  by_cases h : i < bl.length
  · rw [dif_pos ⟨h, h⟩, dif_pos h]
  · rw [dif_neg (by omega), dif_neg h]
/-- A header that is being built: its lead, the entries and the rest. -/
def part (c n : UInt8) (e r : List UInt8) : List UInt8 := [74, 82, 78, c, n] ++ e ++ r
theorem part_set (c n : UInt8) (e r : List UInt8) (k : Nat) (x : UInt8) (hk : k < e.length) : (part c n e r).set (5 + k) x = part c n (e.set k x) r := by
  unfold part
  rw [List.append_assoc, List.append_assoc, List.set_append_right _ _ (by simp), List.set_append_left _ _ (by simpa using hk)]
  simp
end Jr

set_option maxRecDepth 100000
namespace Go.Proofs.Ytbklmpekpcneeaa
open Go.RowKit

theorem toList_made (z : Value) (n : Nat) : madeCells #[z] n = (List.replicate n z).toArray := by
  apply Array.toList_inj.1
  rw [toList_madeCells_one]

theorem u8_val (n : Int) : IntKind.u8.wrap n = ((Jr.ib n).toNat : Int) := by
  have h := byte_val n 0
  rw [wrap_u64] at h
  simp only [Nat.mul_zero, Int.pow_zero, Int.ediv_one] at h
  show n % 256 = _
  unfold Jr.ib
  rw [← h]
  omega

theorem splice_mid (A B C D : List UInt8) (n : Nat) (h : A.length = n) (hd : D.length = B.length) : splice ((A ++ B ++ C).map eb) n (D.map eb) = (A ++ D ++ C).map eb := by
  subst h
  unfold splice
  have e1 : ((A ++ B ++ C).map eb).drop (A.length + (D.map eb).length) = C.map eb := by
    rw [List.map_append]
    exact List.drop_left' (by simp [hd])
  have e2 : ((A ++ B ++ C).map eb).take A.length = A.map eb := by
    rw [List.append_assoc, List.map_append]
    exact List.take_left' (by simp)
  rw [e1, e2]
  simp only [List.map_append, List.append_assoc]
theorem Jr.ib_small (n : Nat) (h : n ≤ 11) : Jr.ib (n : Int) = UInt8.ofNat n := by
  have : ∀ n, n < 12 → Jr.ib ((n : Nat) : Int) = UInt8.ofNat n := by decide
  exact this n (by omega)

set_option maxRecDepth 100000 in
set_option maxHeartbeats 4000000 in
theorem header_w (m : ByteArray) (c : UInt8) (hm : m.data.toList = [74, 82, 78, c]) (seq : Int) {ub us : Value} {bl : List Int} {sl : List UInt8} {w : World} (hb : Sl (Value.int .i64) w ub bl) (hbl : bl.length ≤ 11) (hs : Sl eb w us sl) (hsl : sl.length ≤ 100000) :
    Calls Try.prog 81 #[.string m, ub, .int .i64 seq, us] w fun e w' => ∃ v, e = .returned v ∧ w'.ownsRow w.heap.size 5 1 v 128 ((Jr.mk c bl seq sl).map eb) ∧ Below w.heap.size w w' := by
  obtain ⟨ab, kb, rfl, hb1, hb2, hb3, hb4⟩ := hb
  obtain ⟨asl, ks, hus, hs1, hs2, hs3, hs4⟩ := id hs
  subst hus
  obtain ⟨i5, hi5, hz5, hs5, hb5⟩ := info_parts Try.info5
  have hsz5 : (Try.prog.info? 5).map (·.size) = some 1 := by kernel_rfl
  have hm1 : ∀ W : World, (Instr.makeSlice 25 (.int .i64 128) (.int .i64 128)).run Try.prog W = .ok (.slice (some ⟨W.heap.size, 0, none⟩) 128 128) (W.alloc (.cells ((List.replicate 128 (0 : UInt8)).map eb).toArray 5 (0, 0))) := fun W => by
    have h := run_make (P := Try.prog) W 25 5 i5 (.int .u8 0) Try.underlying25 hi5 hz5 .i64 .i64 128 128 (by decide) (by decide) (by rw [hb5]; decide) (by decide)
    rw [hs5] at h
    rw [show (List.replicate 128 (0 : UInt8)).map eb = List.replicate 128 (.int .u8 0) by simp [eb], ← toList_made]
    exact h
  generalize hzz : ((List.replicate 128 (0 : UInt8)).map eb).toArray = ZA at hm1
  have HB := Lib.hid hb4
  have HSR : Hid (Rd eb w asl sl) := Lib.hid hs4
  have hk0 : Bk (w.alloc (.cells ZA 5 (0, 0))) w.heap.size 5 ((List.replicate 128 (0 : UInt8)).map eb) := by rw [← hzz]; exact Bk.new _ _ _
  have HG0 : Hid (Below w.heap.size w (w.alloc (.cells ZA 5 (0, 0)))) := low_alloc _ _
  have HM := Lib.hid hm
  clear hzz hb4 hs hs4 hm
  go_enter Try.func81, Try.ntmps81
  go_upto_region 3 with (refine wpList_copy_str rfl (.tmp 13) (.tmp 14) 25 9 rfl 5 Try.underlying25 hsz5 w.heap.size 0 128 128 m _ HM.out rfl rfl _ _ hk0 (by simp) (by simp) ?_; intro w1 hk1 hg1)
  have hlw1 : Below w.heap.size w w1 := HG0.out.trans (below_of_grown hg1 (by simp) (by simp))
  have hk2 : Bk w1 w.heap.size 5 ((Jr.part c 0 (List.replicate 11 0) (List.replicate 112 0)).map eb) := hk1
  have HL1 := Lib.hid hlw1
  clear hk1 hg1 hlw1 hk0
  have x4 := hk2.cell 4
  have z4 := hk2.frozen 4
  simp only [Jr.part, List.map_append, List.map_cons, List.cons_append, List.getElem?_cons_succ, List.getElem?_cons_zero] at x4
  have hv := u8_val (bl.length : Int)
  have hk4 := hk2.set 4 (eb (Jr.ib (bl.length : Int)))
  have e4 : ((Jr.part c 0 (List.replicate 11 0) (List.replicate 112 0)).map eb).set 4 (eb (Jr.ib (bl.length : Int))) = ((Jr.part c (Jr.ib (bl.length : Int)) (Jr.ents bl 0) (List.replicate 112 0)).map eb) := by rw [Jr.ents_zero]; rfl
  rw [e4] at hk4
  have hl4 : Below w.heap.size w (w1.setCell ⟨w.heap.size, 4, none⟩ (eb (Jr.ib (bl.length : Int)))) := HL1.out.setCell (p := ⟨w.heap.size, 4, none⟩) (Nat.le_refl _) _
  clear e4
  have HK4 := Lib.hid hk4
  have HL4 := Lib.hid hl4
  clear hk4 hl4
  go_wp2_with fail
  clear x4 z4 hk2 hm1
  go_loopw [10, 11, 23] (fun _ _ i wr => ∃ k : Nat, i = .int .i64 k ∧ k ≤ bl.length ∧ Bk wr w.heap.size 5 ((Jr.part c (Jr.ib (bl.length : Int)) (Jr.ents bl k) (List.replicate 112 0)).map eb) ∧ Below w.heap.size w wr) (fun _ _ i _ => bl.length - (intOf i).toNat)
  case atStart => exact ⟨0, rfl, Nat.zero_le _, HK4.out, HL4.out⟩
  case round =>
    obtain ⟨k, rfl, hk, hbk, hlw⟩ := hrel
    by_cases hlt : k < bl.length
    · obtain ⟨b, off, hab, hb, hcell⟩ := (HB.out.below hlw (Nat.le_refl _)).form (by omega)
      subst hab
      have hck : wr.cell? ⟨b, off + k, none⟩ = some (.int .i64 bl[k]) := hcell k hlt
      have x4 := hbk.cell (5 + k)
      have z4 := hbk.frozen (5 + k)
      have hv := u8_val bl[k]
      have HS := Lib.hid (Jr.ents_step bl k hlt)
      have hlen : ((Jr.part c (Jr.ib (bl.length : Int)) (Jr.ents bl k) (List.replicate 112 0)).map eb).length = 128 := by simp [Jr.part, Jr.ents_len]
      obtain ⟨old, hold⟩ : ∃ u, ((Jr.part c (Jr.ib (bl.length : Int)) (Jr.ents bl k) (List.replicate 112 0)).map eb)[5 + k]? = some u := ⟨_, List.getElem?_eq_getElem (by omega)⟩
      rw [hold] at x4
      have hst := hbk.set (5 + k) (eb (Jr.ib bl[k]))
      rw [← List.map_set, Jr.part_set _ _ _ _ k _ (by rw [Jr.ents_len]; omega), HS.out] at hst
      have HST := Lib.hid hst
      have HL := Lib.hid (hlw.setCell (p := ⟨w.heap.size, 5 + k, none⟩) (Nat.le_refl _) (eb (Jr.ib bl[k])))
      have f1 : (0 : Int) ≤ (k : Int) := by omega
      have f2 : (k : Int) < (bl.length : Int) := by omega
      clear hcell hst hold hbk hlw HS
      go_wp2_with fail
      go_roundw
      case rel => exact ⟨k + 1, by go_num, by omega, HST.out, HL.out⟩
      case measure => simp [intOf]; omega
    · obtain rfl : k = bl.length := by omega
      rw [Jr.ents_all] at hbk
      have hq := word_val seq
      have hlen : ((Jr.part c (Jr.ib (bl.length : Int)) ((List.range 11).map fun i => if h : i < bl.length then Jr.ib bl[i] else 0) (List.replicate 112 0)).map eb).length = 128 := by simp [Jr.part]
      have HP1 := Lib.hid (put_w w.heap.size 16 4 112 (by omega) (by omega) (by unfold maxLen; omega) (Sum.word seq) _ (by rw [hlen]; omega) wr hbk)
      have HLW := Lib.hid hlw
      clear hbk hlw
      go_upto_region 10 with (go_at_call 88; refine HP1.out.mono ?_; rintro e w5 ⟨rfl, hb5, hg5⟩)
      have hw5 : Below w.heap.size w w5 := HLW.out.trans (below_of_grown hg5 (Nat.le_refl _) HLW.out.size)
      have hbp : Bk w5 w.heap.size 5 ((Jr.pre c bl seq ++ List.replicate 8 0 ++ List.replicate 100 0).map eb) := by
        have e : Jr.part c (Jr.ib (bl.length : Int)) ((List.range 11).map fun i => if h : i < bl.length then Jr.ib bl[i] else 0) (List.replicate 112 0) = ([74, 82, 78, c, Jr.ib (bl.length : Int)] ++ (List.range 11).map fun i => if h : i < bl.length then Jr.ib bl[i] else 0) ++ List.replicate 4 0 ++ List.replicate 108 0 := by
          unfold Jr.part
          rw [List.append_assoc _ (List.replicate 4 0), List.replicate_append_replicate]
        rw [e, splice_mid _ _ _ _ 16 (by simp) (by simp [Jr.num_len]), Jr.ib_small _ hbl] at hb5
        rw [List.append_assoc _ (List.replicate 8 0), List.replicate_append_replicate]
        exact hb5
      clear hb5 hg5
      have hpl : (Jr.pre c bl seq).length = 20 := by simp [Jr.pre, Jr.num_len]
      have hsp : Sl eb w5.drew (.slice (some ⟨w.heap.size, 0, none⟩) 20 128) (Jr.pre c bl seq) := by
        have h := Sl.ofOwn (Bk.own (w := w5.drew) hbp (Nat.le_refl _) (by simp [hpl, maxLen]))
        simp only [List.length_map, List.length_append, hpl, List.length_replicate] at h
        have h2 := h.cut 0 20 (by omega)
        rw [List.drop_zero, List.append_assoc, List.take_left' hpl] at h2
        exact h2
      have HC := Lib.hid (bclone_w hsp (by omega))
      rw [hpl] at HC
      have HPL := Lib.hid hpl
      have hgl : w.heap.size < w5.heap.size := hbp.lt
      have HBP : Hid (Bk w5.drew w.heap.size 5 ((Jr.pre c bl seq ++ List.replicate 8 0 ++ List.replicate 100 0).map eb)) := Lib.hid hbp
      have HW5 := Lib.hid hw5.drew
      obtain ⟨i0, hi0, hz00, hz01, hz02⟩ := info_parts Try.info5
      clear hsp hpl hbp hw5 hq HP1
      go_region_held3 (fun _ => True) (trivial) ((first
        | (go_at_call 64; refine HC.out.mono ?_; rintro e w6 ⟨v6, rfl, ho6, hb6⟩)
        | (refine step_append_rd eb (fun _ => rfl) rfl (.tmp 44) (.tmp 45) 25 (by rfl) w5.heap.size 5 i0 (.int .u8 0) 1 Try.underlying25 hi0 hz00 hz01 hz02 rfl v6 20 (Jr.pre c bl seq) (by rfl) ho6 asl ks sl sl.length (by rfl) rfl hs3 hs1 (HSR.out.below (HW5.out.trans (hb6.mono (Nat.le_of_lt hgl))) (Nat.le_refl _)) (by unfold maxLen; omega) (by omega) hb6.size ?_; intro v7 w7 ho7 hs7 hb7)
        | (go_at_call 89; refine (sof_w (Sl.ofOwn ho7)).mono ?_; rintro e w8 ⟨rfl, hb8⟩)
        | (go_at_call 88; refine (put_w w.heap.size 20 8 108 (by omega) (by omega) (by unfold maxLen; omega) _ _ (by simp [HPL.out]) w8 (((HBP.out.below hb6 hgl).below hb7 hgl).below hb8 (Nat.lt_of_lt_of_le hgl (Nat.le_trans hb6.size hb7.size)))).mono ?_; rintro e w9 ⟨rfl, hb9, hg9⟩)))
      have hg5 : w.heap.size ≤ w5.heap.size := Nat.le_of_lt hgl
      have hg7 : w.heap.size ≤ w7.heap.size := Nat.le_trans hg5 (Nat.le_trans hb6.size hb7.size)
      have hw8 : Below w.heap.size w w8 := ((HW5.out.trans (hb6.mono hg5)).trans (hb7.mono hg5)).trans (hb8.mono hg7)
      have hw9 := hw8.trans (below_of_grown hg9 (Nat.le_refl _) hw8.size)
      have hml : ((Jr.mk c bl seq sl).map eb).length = 128 := by simp [Jr.mk, HPL.out, Jr.num_len]
      have ho9 : w9.ownsRow w.heap.size 5 1 (.slice (some ⟨w.heap.size, 0, none⟩) 128 128) 128 ((Jr.mk c bl seq sl).map eb) := by
        rw [splice_mid _ _ _ _ 20 HPL.out (by simp [Jr.num_len])] at hb9
        have h := Bk.own (l := (Jr.mk c bl seq sl).map eb) hb9 (Nat.le_refl _) (by rw [hml]; unfold maxLen; omega)
        rw [hml] at h
        exact h
      clear hb9 hg9 hb6 hb7 hb8 ho6 ho7 hs7
      go_wp2_with fail
      go_ret
      exact ⟨_, rfl, ho9, hw9⟩
end Go.Proofs.Ytbklmpekpcneeaa

namespace Go.Proofs.Ytbklmpekpcneeaa
open Go.RowKit

theorem Jr.mk_len (c : UInt8) (bl : List Int) (seq : Int) (sl : List UInt8) : (Jr.mk c bl seq sl).length = 128 := by simp [Jr.mk, Jr.pre, Jr.num_len]

set_option maxHeartbeats 800000 in
theorem empty_w (seq : Int) (h0 : -9223372036854775808 ≤ seq) (h1 : seq ≤ 9223372036854775807) (w : World) : Calls Try.prog 55 #[.int .i64 seq] w fun e w' =>
    ∃ v, e = .returned (.tuple #[v, .int .i64 (Jr.empty seq).2]) ∧ w'.ownsRow w.heap.size 5 1 v (Jr.empty seq).1.length ((Jr.empty seq).1.map eb) ∧ Below w.heap.size w w' := by
  have HH := Lib.hid (header_w (ByteArray.mk #[74, 82, 78, 48]) 48 (by rfl) seq (bl := []) (sl := []) (Sl.nil (Value.int .i64) w) (by simp) (Sl.nil eb w) (by simp))
  by_cases f1 : seq < 0
  · have e : Jr.empty seq = ([], 2) := if_pos (Or.inl f1)
    rw [e]
    go_enter Try.func55, Try.ntmps55
    go_wp2
    go_ret2
    exact ⟨_, rfl, World.ownsRow_nil _ _ _ _, Below.refl _ _⟩
  · by_cases f2 : 4294967295 < seq
    · have e : Jr.empty seq = ([], 2) := if_pos (Or.inr f2)
      rw [e]
      have f3 : 0 ≤ seq := by omega
      go_enter Try.func55, Try.ntmps55
      go_wp2
      go_ret2
      exact ⟨_, rfl, World.ownsRow_nil _ _ _ _, Below.refl _ _⟩
    · have e : Jr.empty seq = (Jr.idle seq, 0) := if_neg (by omega)
      rw [e]
      have f3 : 0 ≤ seq := by omega
      have f4 : seq ≤ 4294967295 := by omega
      go_enter Try.func55, Try.ntmps55
      go_wp2_with (go_at_call 81; refine HH.out.mono ?_; rintro e w1 ⟨v1, rfl, ho1, hb1⟩)
      go_ret2
      refine ⟨_, rfl, ?_, hb1⟩
      rw [show (Jr.idle seq).length = 128 from Jr.mk_len _ _ _ _]
      exact ho1
end Go.Proofs.Ytbklmpekpcneeaa

set_option maxRecDepth 100000
namespace Go.Proofs.Ytbklmpekpcneeaa
open Go.RowKit

theorem own_new_row (w : World) (base : Nat) (e : TypeId) (xs : List Value) (z : Value) (c n : Nat) (hn : xs.length = n) (hb : base ≤ w.heap.size) (hge : n ≤ c) (hcm : c ≤ maxLen) (hz : z.cells.size = 1) :
    (w.drew.alloc (.cells (xs.toArray ++ Builtin.zeroCells z.cells (c - n)) e)).ownsRow base e 1 (.slice (some ⟨w.heap.size, 0, none⟩) n c) n xs := by
  subst hn
  refine ⟨by simp, .inr ⟨w.heap.size, _, _, rfl, hb, heap_alloc_new w.drew _, hge, hcm, ?_, ?_⟩⟩
  · simp only [Array.size_append, List.size_toArray, size_zeroCells, hz]
    omega
  · simp only [Array.toList_append, Nat.mul_one]
    exact List.take_left

/-- The base is full: whatever it is marked by. -/
theorem run_append_full {P : Program} {w : World} (base : Nat) (t ty e : TypeId) (i : TypeInfo) (z : Value) (bytes : Nat) (ht : P.underlying t = some (.slice e)) (hi : P.info? e = some i) (hz : i.zero = some z) (hsize : i.size = 1) (hby : i.bytes = bytes) (hzs : z.cells.size = 1)
    (b off n : Nat) (xs : List Value) (hx : xs.length = n) (hold : ∀ j u, xs[j]? = some u → w.cell? ((⟨b, off, none⟩ : Addr).add j) = some u)
    (a : Addr) (m c : Nat) (news : List Value) (hl : news.length = m) (hnews : ∀ j u, news[j]? = some u → w.cell? (a.add j) = some u) (h1 : ∀ u ∈ news, u.oneCell' = true) (hm : 0 < m)
    (h63 : n + m ≤ maxLen) (hfit : Builtin.nextslicecap (n + m) n * bytes ≤ 281474976710656) (hbase : base ≤ w.heap.size) :
    ∃ v' w', (Builtin.append_ #[t, t] ty #[.slice (some ⟨b, off, none⟩) n n, .slice (some a) m c]).run P w = .ok v' w' ∧ w'.ownsRow base e 1 v' (n + m) (xs ++ news) ∧ Below base w w' := by
  subst hby
  have hr := run_append_grow_src (P := P) w t t ty e i z ht hi hz (some ⟨b, off, none⟩) n n xs
    (run_firstCells_some w.drew i.size n ⟨b, off, none⟩ n n xs (by rw [hsize, Nat.mul_one]; exact hx) (by simpa using hold))
    (.slice (some a) m c) m news (Src.ofSlice w ht a m c news (by rw [hsize, Nat.mul_one]; exact hl) hnews h1) (by omega) (by unfold maxLen at h63; omega) hfit
  refine ⟨_, _, hr, ?_, ?_⟩
  · exact own_new_row w base e (xs ++ news) z _ (n + m) (by simp [hx, hl]) hbase (grownCap_ge _ _ _ _) (grownCap_le_maxLen _ _ _ _ h63) hzs
  · exact ((Below.refl base w).drew).alloc hbase _

theorem zeros_list (z : Value) (hz : z.cells = #[z]) (k : Nat) : (Builtin.zeroCells z.cells k).toList = List.replicate k z := by
  apply List.ext_getElem?
  intro j
  rw [hz]
  by_cases h : j < k
  · simp [Builtin.zeroCells, h, Nat.mod_one]
  · simp [Builtin.zeroCells, h]

/-- append of a make of k onto a row of the call's own. -/
theorem run_append_make {P : Program} {w : World} (base : Nat) (t tn ty e : TypeId) (i : TypeInfo) (z : Value) (kn kq : IntKind) (ht : P.underlying t = some (.slice e)) (htn : P.underlying tn = some (.int kn)) (hi : P.info? e = some i) (hz : i.zero = some z) (hsize : i.size = 1) (hby : i.bytes = 1) (hzc : z.cells = #[z]) (hz1 : z.oneCell' = true)
    (v : Value) (n : Nat) (xs : List Value) (hown : w.ownsRow base e 1 v n xs) (k : Nat) (hn : 0 < n) (hk : 0 < k) (h63 : n + k ≤ 1000000) (hbase : base ≤ w.heap.size) :
    ∃ v' w', (Builtin.append_ #[t, tn] ty #[v, .int kq k]).run P w = .ok v' w' ∧ w'.ownsRow base e 1 v' (n + k) (xs ++ List.replicate k z) ∧ Below base w w' := by
  have hzs : z.cells.size = 1 := by rw [hzc]; rfl
  rcases hown.2 with ⟨rfl, rfl⟩ | ⟨g, cap, cur, rfl, hbg, hg, hnc, hcm, hcs, htake⟩
  · omega
  · have hl := hown.1
    rw [Nat.mul_one] at hl hcs htake
    by_cases hroom : n + k ≤ cap
    · have hst := run_storeCells_at (P := P) g n e (Builtin.zeroCells z.cells k).toList 0 cur w hg (by rw [zeros_list z hzc]; simp; omega) (by
        intro u hu
        rw [zeros_list z hzc] at hu
        rw [List.eq_of_mem_replicate hu]
        exact hz1)
      have hw : IntKind.i64.wrap (k : Int) = k := by rw [IntKind.wrap_i64]; omega
      have hneg : ¬ ((k : Int) < 0) := by omega
      have h48 : ¬ (281474976710656 < (k : Int)) := by omega
      have hk0 : ¬ (k = 0) := by omega
      have hadd : (⟨g, 0, none⟩ : Addr).add n = ⟨g, n, none⟩ := by unfold Addr.add; split <;> simp_all
      refine ⟨.slice (some ⟨g, 0, none⟩) (n + k) cap, w.setRow g (cur.toList.take (n + 0) ++ (Builtin.zeroCells z.cells k).toList ++ cur.toList.drop (n + 0 + (Builtin.zeroCells z.cells k).toList.length)).toArray, ?_, ?_, ?_⟩
      rotate_left
      · refine ⟨by simp [hl], .inr ⟨g, cap, _, rfl, hbg, setRow_heap w g cur _ e _ hg, hroom, hcm, ?_, ?_⟩⟩
        · rw [zeros_list z hzc]; simp; omega
        · rw [zeros_list z hzc]
          simp only [Nat.add_zero, Nat.mul_one, htake]
          exact List.take_left' (by simp [hl])
      · exact ⟨rfl, rfl, rfl, by simp [World.setRow], fun j hj => setRow_other w g j _ (by omega)⟩
      · simp [Builtin.append_, run_underlying ht, run_underlying htn, sizeOf, typeInfo, zeroValue, hi, hz, asInt, asIntOf, hw, hneg, h48, hk0, hsize, hby, hroom, hadd, hst]
    · have hr := Lib.run_append_grow_zeros (P := P) w t tn ty e i z kq kn ht htn hi hz (some ⟨g, 0, none⟩) n cap xs
        (run_firstCells_some w.drew i.size n ⟨g, 0, none⟩ n cap xs (by rw [hsize, Nat.mul_one]; exact hl) (by simpa using hown.cells (g := g) rfl)) k hk (by omega) (by omega) (by omega) (by rw [hby]; omega) (by rw [hby, Nat.mul_one]; have := nextslicecap_le (need := n + k) (old := cap) (by omega); omega)
      refine ⟨_, _, hr, ?_, ((Below.refl base w).drew).alloc hbase _⟩
      have h := own_new_row w base e (xs ++ List.replicate k z) z (grownCap w (n + k) cap e) (n + k) (by simp [hl]) hbase (grownCap_ge _ _ _ _) (grownCap_le_maxLen _ _ _ _ (by unfold maxLen; omega)) hzs
      have e1 : (xs ++ List.replicate k z).toArray = xs.toArray ++ Builtin.zeroCells z.cells k := by
        apply Array.toList_inj.1
        rw [Array.toList_append, zeros_list z hzc]
      rw [e1] at h
      exact h
end Go.Proofs.Ytbklmpekpcneeaa

namespace Jr
/-- What lies in the row behind k rounds. -/
def row (c : UInt8) (bl : List Int) (k : Nat) : List UInt8 := [74, 82, 78, c, UInt8.ofNat bl.length] ++ ((List.range k).map fun i => if h : i < bl.length then ib bl[i] else 0)
theorem row_step (c : UInt8) (bl : List Int) (k : Nat) : row c bl (k + 1) = row c bl k ++ [if h : k < bl.length then ib bl[k] else 0] := by
  unfold row
  rw [List.range_succ, List.map_append, ← List.append_assoc]
  rfl
theorem pre_len' (c : UInt8) (bl : List Int) (seq : Int) : (pre c bl seq).length = 20 := by simp [pre, num_len]
theorem row_len (c : UInt8) (bl : List Int) (k : Nat) : (row c bl k).length = 5 + k := by simp [row]; omega
/-- The fourth byte, and what is summed behind the first 20 bytes. -/
def mark (l : List Wr) : UInt8 := if l = [] then 48 else 49
def tailOf (l : List Wr) (sl : List UInt8) : List UInt8 := if l = [] then [] else sl
theorem head_eq (seq : Int) (l : List Wr) (sl : List UInt8) : head seq l sl = mk (mark l) (l.map Prod.fst) seq (tailOf l sl) := by
  unfold head mark tailOf
  split
  · rename_i h; subst h; rfl
  · rfl
end Jr
namespace Go.Proofs.Ytbklmpekpcneeaa
open Go.RowKit

/-- The row of a constant's bytes. -/
def lead (c : Int) : Array Value := #[.int .u8 74, .int .u8 82, .int .u8 78, .int .u8 c]

section
variable {P : Program} {w : World} {ops : Array Oper} {rest : List Oper} {o : Oper} {a : Act} {Q : Exit → Act → World → Prop}
/-- One value is appended onto a row that is full, whatever its mark. -/
theorem wpList_append_full (hgd : o.guard = none) (s x : Operand) (t : TypeId) (ho : o.op = .call { callee := .builtin .append, args := #[s, x], argTypes := #[t, t] })
    (base : Nat) (e : TypeId) (i : TypeInfo) (z : Value) (bytes : Nat) (ht : P.underlying t = some (.slice e)) (hi : P.info? e = some i) (hz : i.zero = some z) (hsize : i.size = 1) (hby : i.bytes = bytes) (hzs : z.cells.size = 1)
    (b n : Nat) (xs : List Value) (hsv : a.eval s = .slice (some ⟨b, 0, none⟩) n n) (hx : xs.length = n) (fr : Nat × Nat) (hold : w.heap[b]? = some (.cells xs.toArray e fr))
    (g : Nat) (u : Value) (hxv : a.eval x = .slice (some ⟨g, 0, none⟩) 1 1) (hg : w.cell? ⟨g, 0, none⟩ = some u) (h1 : u.oneCell' = true)
    (h63 : n + 1 ≤ maxLen) (hfit : Builtin.nextslicecap (n + 1) n * bytes ≤ 281474976710656) (hbase : base ≤ w.heap.size)
    (h : ∀ v' w', w'.ownsRow base e 1 v' (n + 1) (xs ++ [u]) → Below base w w' → wpList P ops Q rest (a.put o.dst v') w') : wpList P ops Q (o :: rest) a w := by
  refine wpList_plain hgd fun K hK => ?_
  have hadd : ∀ b j : Nat, (⟨b, 0, none⟩ : Addr).add j = ⟨b, j, none⟩ := fun b j => by unfold Addr.add; split <;> simp_all
  obtain ⟨v', w', hrun, h2, h3⟩ := run_append_full (P := P) (w := w) base t o.type e i z bytes ht hi hz hsize hby hzs b 0 n xs hx (fun j v hj => by rw [hadd, cell_of_row _ _ j _ _ _ hold]; simpa using hj) ⟨g, 0, none⟩ 1 1 [u] rfl (fun j v hj => by
    have hj0 : j = 0 := by
      have := (List.getElem?_eq_some_iff.1 hj).1
      simp at this
      exact this
    subst hj0
    rw [hadd, hg]
    exact hj) (fun v hv => by rw [List.mem_singleton.1 hv]; exact h1) (by omega) h63 hfit hbase
  unfold Oper.wp
  simp only [execOp, ho, resolve, invoke, builtin, Sem.run_bind, Sem.run_pure, Result.andThen_ok, List.map_toArray, List.map_cons, List.map_nil, hsv, hxv, hrun]
  exact hK _ _ (h v' w' h2 h3)

/-- A make of k is appended onto an own row. -/
theorem wpList_append_make (hgd : o.guard = none) (s x : Operand) (t tn : TypeId) (ho : o.op = .call { callee := .builtin .append, args := #[s, x], argTypes := #[t, tn] })
    (base : Nat) (e : TypeId) (i : TypeInfo) (z : Value) (kn kq : IntKind) (ht : P.underlying t = some (.slice e)) (htn : P.underlying tn = some (.int kn)) (hi : P.info? e = some i) (hz : i.zero = some z) (hsize : i.size = 1) (hby : i.bytes = 1) (hzc : z.cells = #[z]) (hz1 : z.oneCell' = true)
    (v : Value) (n : Nat) (xs : List Value) (hsv : a.eval s = v) (hown : w.ownsRow base e 1 v n xs) (k : Nat) (hxv : a.eval x = .int kq k) (hn : 0 < n) (hk : 0 < k) (h63 : n + k ≤ 1000000) (hbase : base ≤ w.heap.size)
    (h : ∀ v' w', w'.ownsRow base e 1 v' (n + k) (xs ++ List.replicate k z) → Below base w w' → wpList P ops Q rest (a.put o.dst v') w') : wpList P ops Q (o :: rest) a w := by
  refine wpList_plain hgd fun K hK => ?_
  obtain ⟨v', w', hrun, h2, h3⟩ := run_append_make (P := P) (w := w) base t tn o.type e i z kn kq ht htn hi hz hsize hby hzc hz1 v n xs hown k hn hk h63 hbase
  unfold Oper.wp
  simp only [execOp, ho, resolve, invoke, builtin, Sem.run_bind, Sem.run_pure, Result.andThen_ok, List.map_toArray, List.map_cons, List.map_nil, hsv, hxv, hrun]
  exact hK _ _ (h v' w' h2 h3)
end

set_option maxRecDepth 100000 in
set_option maxHeartbeats 4000000 in
theorem rheader_w (seq : Int) {v us : Value} {ls : List Jr.Wr} {sl : List UInt8} {w : World} (hv : Wp w v ls) (hl : ls.length ≤ 11) (hs : Sl eb w us sl) (hsl : sl.length ≤ 100000) :
    Calls Try.prog 83 #[.int .i64 seq, v, us] w fun e w' => ∃ v, e = .returned v ∧ w'.ownsRow w.heap.size 5 1 v 128 ((Jr.head seq ls sl).map eb) ∧ Below w.heap.size w w' := by
  rw [Jr.head_eq]
  obtain ⟨a, cap, rfl, h1, h2, h3, hop⟩ := hv.open
  obtain ⟨asl, ks, hus, hs1, hs2, hs3, hs4⟩ := id hs
  subst hus
  obtain ⟨i0, hi, hz0, hz1, hz2⟩ := info_parts Try.info5
  have HOP := Lib.hid hop
  have HSR : Hid (Rd eb w asl sl) := Lib.hid hs4
  have hv5 := u8_val (ls.length : Int)
  rw [Jr.ib_small _ hl] at hv5
  have HM : Hid (Jr.mark ls = if ls = [] then 48 else 49) := rfl
  have HT : Hid (Jr.tailOf ls sl = if ls = [] then [] else sl) := rfl
  generalize Jr.mark ls = c at *
  generalize Jr.tailOf ls sl = tl at *
  clear hv hop hs hs4
  have hc0 := Go.Joins.run_convert_bytes_const_at (P := Try.prog) w 25 5 (lead 48) 4 4 w.heap.size rfl Try.underlying25 Try.underlying5
  have hc1 := Go.Joins.run_convert_bytes_const_at (P := Try.prog) (w.alloc (.cells (lead 48) 5 (4, 5))) 25 5 (lead 49) 4 4 (w.heap.size + 1) (by simp) Try.underlying25 Try.underlying5
  simp only [lead, List.size_toArray, List.length_cons, List.length_nil, Nat.reduceAdd] at hc0 hc1
  go_enter Try.func83, Try.ntmps83
  go_upto_if 15 with fail
  go_cut [7] (fun s7 W => ∃ g, s7 = .slice (some ⟨g, 0, none⟩) 4 4 ∧ W.heap[g]? = some (.cells (lead (c.toNat : Int)) 5 (4, 5)) ∧ Below w.heap.size w W)
  case first =>
    by_cases f : 0 < ls.length
    · have f1 : (0 : Int) < (ls.length : Int) := by omega
      have hc : c = 49 := HM.out.trans (if_neg (fun e => by rw [e] at f; simp at f))
      have HC := Lib.hid hc
      clear hc
      go_wp2_with fail
      go_meet
      rw [HC.out]
      refine ⟨w.heap.size + 1, rfl, ?_, (low_alloc w _).alloc (by simp) _⟩
      rw [show w.heap.size + 1 = (w.alloc (.cells (lead 48) 5 (4, 5))).heap.size by simp]
      exact heap_alloc_new _ _
    · have f1 : ¬ (0 : Int) < (ls.length : Int) := by omega
      have hc : c = 48 := HM.out.trans (if_pos (List.eq_nil_of_length_eq_zero (by omega)))
      have HC := Lib.hid hc
      clear hc
      go_wp2_with fail
      go_meet
      rw [HC.out]
      exact ⟨w.heap.size, rfl, heap_alloc_new _ _, low_alloc w _⟩
  case rest =>
    rename World => W2
    obtain ⟨g, rfl, hg2, hb2⟩ := hcut
    have hsz2 := hb2.size
    have HG2 : Hid (∀ o, (W2.alloc o).heap[g]? = some (.cells (lead (c.toNat : Int)) 5 (4, 5))) := fun o => (Below.heap_alloc W2 o g (Array.getElem?_eq_some_iff.1 hg2).1).trans hg2
    have HB2 := Lib.hid hb2
    clear hg2 hb2 hc0 hc1
    go_upto_region 5 with (at_builtin; refine wpList_append_full rfl _ _ 25 rfl w.heap.size 5 i0 (.int .u8 0) 1 Try.underlying25 hi hz0 hz1 hz2 rfl g 4 [.int .u8 74, .int .u8 82, .int .u8 78, .int .u8 c.toNat] rfl rfl (4, 5) (HG2.out _) W2.heap.size (.int .u8 ((UInt8.ofNat ls.length).toNat : Int)) rfl (by rw [cell_of_row _ _ _ _ _ _ (heap_alloc_new W2 _)]; rfl) rfl (by unfold maxLen; omega) (by decide) (by simp; omega) ?_; intro v4 W4 ho4 hb4)
    have HO4 : Hid (W4.ownsRow w.heap.size 5 1 v4 (5 + 0) ((Jr.row c (ls.map Prod.fst) 0).map eb)) := by
      have e : (Jr.row c (ls.map Prod.fst) 0).map eb = [.int .u8 74, .int .u8 82, .int .u8 78, .int .u8 c.toNat] ++ [.int .u8 ((UInt8.ofNat ls.length).toNat : Int)] := by simp [Jr.row, eb]
      rw [e]
      exact ho4
    have HB4 := Lib.hid ((HB2.out.alloc hsz2 _).trans hb4)
    clear ho4 hb4
    go_wp2_with fail
    go_loopw [7, 8, 9] (fun s7 i _ wr => ∃ (k : Nat) (v : Value), v = s7 ∧ i = .int .i64 k ∧ k ≤ 11 ∧ wr.ownsRow w.heap.size 5 1 v (5 + k) ((Jr.row c (ls.map Prod.fst) k).map eb) ∧ Below w.heap.size w wr) (fun _ i _ _ => 11 - (intOf i).toNat)
    case atStart => exact ⟨0, _, rfl, rfl, Nat.zero_le _, HO4.out, HB4.out⟩
    case round =>
      obtain ⟨k, v, rfl, rfl, hk, ho, hbl⟩ := hrel
      obtain ⟨a1, c1, rfl⟩ := own_slice ho
      by_cases hlt : k < 11
      · have HST := Lib.hid (Jr.row_step c (ls.map Prod.fst) k)
        have HRL := Lib.hid (Jr.row_len c (ls.map Prod.fst) k)
        have hbs := hbl.size
        have HBL := Lib.hid hbl
        have HO := Lib.hid ho
        by_cases hkl : k < ls.length
        · obtain ⟨b, off, a', c', rfl, hbw, ⟨x0, x1⟩, -⟩ := HOP.out k hkl
          have y0 : wr.cell? ⟨b, off + k * 2, none⟩ = some (.int .i64 ls[k].1) := by rw [hbl.cell (p := ⟨b, off + k * 2, none⟩) hbw]; exact x0
          have hv := u8_val ls[k].1
          have hst := HST.out
          rw [dif_pos (by simpa using hkl)] at hst
          simp only [List.getElem_map] at hst
          have HST2 := Lib.hid hst
          generalize ls[k].1 = n at *
          generalize Jr.ib n = q at *
          have f1 : (0 : Int) ≤ (k : Int) := by omega
          have f2 : (k : Int) < (ls.length : Int) := by omega
          clear x0 x1 hst HST ho hbl
          go_wp2_with (at_builtin; refine wpList_append_rd eb (fun _ => rfl) rfl _ _ 25 rfl w.heap.size 5 i0 (.int .u8 0) 1 Try.underlying25 hi hz0 hz1 hz2 rfl (.slice a1 (5 + k) c1) (5 + k) (Jr.row c (ls.map Prod.fst) k) rfl (HO.out.alloc _) (some ⟨wr.heap.size, 0, none⟩) 1 [q] 1 rfl rfl (by simp) (by omega) (Rd.one eb wr q _ _) (by unfold maxLen; omega) (by omega) (by simp; omega) ?_; intro v7 w7 ho7 hs7 hb7)
          go_roundw
          case rel => exact ⟨k + 1, _, rfl, by go_num, by omega, by rw [HST2.out]; exact ho7, (HBL.out.alloc hbs _).trans hb7⟩
          case measure => simp [intOf]; omega
        · have hst := HST.out
          rw [dif_neg (by simpa using hkl)] at hst
          have HST2 := Lib.hid hst
          have f2 : ¬ (k : Int) < (ls.length : Int) := by omega
          clear hst HST ho hbl
          go_wp2_with (at_builtin; refine wpList_append_rd eb (fun _ => rfl) rfl _ _ 25 rfl w.heap.size 5 i0 (.int .u8 0) 1 Try.underlying25 hi hz0 hz1 hz2 rfl (.slice a1 (5 + k) c1) (5 + k) (Jr.row c (ls.map Prod.fst) k) rfl (HO.out.alloc _) (some ⟨wr.heap.size, 0, none⟩) 1 [(0 : UInt8)] 1 rfl rfl (by simp) (by omega) (Rd.one eb wr (0 : UInt8) _ _) (by unfold maxLen; omega) (by omega) (by simp; omega) ?_; intro v7 w7 ho7 hs7 hb7)
          go_roundw
          case rel => exact ⟨k + 1, _, rfl, by go_num, by omega, by rw [HST2.out]; exact ho7, (HBL.out.alloc hbs _).trans hb7⟩
          case measure => simp [intOf]; omega
      · obtain rfl : k = 11 := by omega
        have hq := word_val seq
        have hrow : Jr.row c (ls.map Prod.fst) 11 ++ Jr.num (Sum.word seq) 4 = Jr.pre c (ls.map Prod.fst) seq := rfl
        have HROW := Lib.hid hrow
        have HO := Lib.hid ho
        have HBL := Lib.hid hbl
        have HN := Lib.hid (fun W => number_w (Sum.word seq) 4 (by omega) W)
        have h4l : (Jr.num (Sum.word seq) 4).length = 4 := Jr.num_len _ _
        have H4L := Lib.hid h4l
        clear hrow ho hbl h4l
        go_upto_region 13 with (first
          | (go_at_call 90; refine (HN.out _).mono ?_; rintro e w5 ⟨v5, rfl, ho5, hb5⟩)
          | (at_builtin; refine wpList_append_sl eb (fun _ => rfl) rfl _ _ 25 rfl w.heap.size 5 i0 (.int .u8 0) 1 Try.underlying25 hi hz0 hz1 hz2 rfl (.slice a1 (5 + 11) c1) (5 + 11) (Jr.row c (ls.map Prod.fst) 11) rfl (own_below HO.out hb5) v5 (Jr.num (Sum.word seq) 4) rfl (Sl.ofOwn ho5) (by rw [H4L.out]; unfold maxLen; omega) (by rw [H4L.out]; omega) (Nat.le_trans HBL.out.size hb5.size) ?_; intro v7 w7 ho7 hs7 hb7))
        rw [HROW.out, H4L.out] at ho7
        have hbl7 := (HBL.out.trans (hb5.mono HBL.out.size)).trans hb7
        obtain ⟨a7, c7, rfl⟩ := own_slice ho7
        have HO7 := Lib.hid ho7
        have HB7 := Lib.hid hbl7
        have hs7z := hbl7.size
        have HPL := Lib.hid (Jr.pre_len' c (ls.map Prod.fst) seq)
        clear ho5 hb5 hs7 hb7 ho7 hbl7 hq
        -- the copy of the row
        have HX7 : Hid (∀ o, Sl eb (w7.alloc o) (.slice a7 20 c7) (Jr.pre c (ls.map Prod.fst) seq)) := fun o => own_sl HO7.out (low_alloc _ _)
        go_upto_region 14 with (at_builtin; refine wpList_append_sl eb (fun _ => rfl) rfl _ _ 25 rfl w7.heap.size 5 i0 (.int .u8 0) 1 Try.underlying25 hi hz0 hz1 hz2 rfl _ 0 [] rfl (World.ownsRow_made w7 #[] 0 (Nat.le_refl _) (Nat.zero_le _) rfl) (.slice a7 20 c7) (Jr.pre c (ls.map Prod.fst) seq) rfl (HX7.out _) (by rw [HPL.out]; unfold maxLen; omega) (by rw [HPL.out]; omega) (by simp) ?_; intro v8 w8 ho8 hs8 hb8)
        rw [HPL.out, Nat.zero_add, List.nil_append] at ho8
        have hbl8 := (low_alloc w7 _).trans hb8
        clear hs8 hb8
        obtain ⟨a8, c8, rfl⟩ := own_slice ho8
        have HO8 := Lib.hid ho8
        have HB8 := Lib.hid hbl8
        clear ho8 hbl8
        go_upto_if 52 with fail
        go_cut [10] (fun s10 W => ∃ v, v = s10 ∧ W.ownsRow w7.heap.size 5 1 v (20 + tl.length) ((Jr.pre c (ls.map Prod.fst) seq ++ tl).map eb) ∧ Below w7.heap.size w7 W)
        case first =>
          by_cases f : 0 < ls.length
          · have f1 : (0 : Int) < (ls.length : Int) := by omega
            have hc : tl = sl := HT.out.trans (if_neg (fun e => by rw [e] at f; simp at f))
            have HC := Lib.hid hc
            clear hc
            go_wp2_with (at_builtin; refine wpList_append_sl eb (fun _ => rfl) rfl _ _ 25 rfl w7.heap.size 5 i0 (.int .u8 0) 1 Try.underlying25 hi hz0 hz1 hz2 rfl (.slice a8 20 c8) 20 (Jr.pre c (ls.map Prod.fst) seq) rfl HO8.out (.slice asl sl.length ks) sl rfl ⟨asl, ks, rfl, hs1, hs2, hs3, HSR.out.below (HB7.out.trans (HB8.out.mono hs7z)) (Nat.le_refl _)⟩ (by unfold maxLen; omega) (by omega) HB8.out.size ?_; intro v9 w9 ho9 hs9 hb9)
            go_meet
            rw [HC.out]
            exact ⟨_, rfl, ho9, HB8.out.trans hb9⟩
          · have f1 : ¬ (0 : Int) < (ls.length : Int) := by omega
            have hc : tl = [] := HT.out.trans (if_pos (List.eq_nil_of_length_eq_zero (by omega)))
            have HC := Lib.hid hc
            clear hc
            go_wp2_with fail
            go_meet
            rw [HC.out]
            exact ⟨_, rfl, by simpa using HO8.out, HB8.out⟩
        case rest =>
          rename World => W9
          obtain ⟨v9, rfl, ho9, hb9⟩ := hcut
          obtain ⟨a9, c9, rfl⟩ := own_slice ho9
          have h9 : Sl eb W9 (.slice a9 (20 + tl.length) c9) (Jr.pre c (ls.map Prod.fst) seq ++ tl) := Sl.ofOwn ho9
          have HOF := Lib.hid (rof_w h9)
          have HN8 := Lib.hid (fun W => number_w (Sum.of (Jr.pre c (ls.map Prod.fst) seq ++ tl)) 8 (by omega) W)
          have h8l : (Jr.num (Sum.of (Jr.pre c (ls.map Prod.fst) seq ++ tl)) 8).length = 8 := Jr.num_len _ _
          have H8L := Lib.hid h8l
          have hmk : Jr.pre c (ls.map Prod.fst) seq ++ Jr.num (Sum.of (Jr.pre c (ls.map Prod.fst) seq ++ tl)) 8 ++ List.replicate 100 0 = Jr.mk c (ls.map Prod.fst) seq tl := rfl
          have HMK := Lib.hid hmk
          have HB9 := Lib.hid hb9
          generalize Sum.of (Jr.pre c (ls.map Prod.fst) seq ++ tl) = q at *
          clear h9 h8l hmk ho9 hb9
          go_upto_region 17 with (first
            | (go_at_call 91; refine HOF.out.mono ?_; rintro e w10 ⟨rfl, hb10⟩)
            | (go_at_call 90; refine (HN8.out _).mono ?_; rintro e w11 ⟨v11, rfl, ho11, hb11⟩)
            | (at_builtin; refine wpList_append_sl eb (fun _ => rfl) rfl _ _ 25 rfl w.heap.size 5 i0 (.int .u8 0) 1 Try.underlying25 hi hz0 hz1 hz2 rfl (.slice a7 20 c7) 20 (Jr.pre c (ls.map Prod.fst) seq) rfl (own_below HO7.out (low_trans (low_trans HB9.out hb10) hb11)) v11 (Jr.num q 8) rfl (Sl.ofOwn ho11) (by rw [H8L.out]; unfold maxLen; omega) (by rw [H8L.out]; omega) (Nat.le_trans hs7z (low_trans (low_trans HB9.out hb10) hb11).size) ?_; intro v12 w12 ho12 hs12 hb12))
          rw [H8L.out] at ho12
          have hbl12 := (low_trans HB7.out (low_trans (low_trans HB9.out hb10) hb11)).trans hb12
          obtain ⟨a12, c12, rfl⟩ := own_slice ho12
          have HO12 := Lib.hid ho12
          have HB12 := Lib.hid hbl12
          have hs12z := hbl12.size
          clear hb10 ho11 hb11 ho12 hs12 hb12 hbl12
          go_wp2_with (at_builtin; refine wpList_append_make rfl _ _ 25 3 rfl w.heap.size 5 i0 (.int .u8 0) .i64 .i64 Try.underlying25 Try.underlying3 hi hz0 hz1 hz2 rfl rfl (.slice a12 (20 + 8) c12) (20 + 8) _ rfl HO12.out 100 rfl (by omega) (by omega) (by omega) hs12z ?_; intro v13 w13 ho13 hb13)
          go_ret
          refine ⟨_, rfl, ?_, HB12.out.trans hb13⟩
          rw [← HMK.out, List.map_append, List.map_replicate]
          exact ho13
end Go.Proofs.Ytbklmpekpcneeaa

set_option maxRecDepth 100000
namespace Go.Proofs.Ytbklmpekpcneeaa
open Go.RowKit

set_option maxHeartbeats 800000 in
theorem rempty_w (seq : Int) (h0 : -9223372036854775808 ≤ seq) (h1 : seq ≤ 9223372036854775807) (w : World) : Calls Try.prog 57 #[.int .i64 seq] w fun e w' =>
    ∃ v, e = .returned (.tuple #[v, .int .i64 (Jr.empty seq).2]) ∧ w'.ownsRow w.heap.size 5 1 v (Jr.empty seq).1.length ((Jr.empty seq).1.map eb) ∧ Below w.heap.size w w' := by
  have HH := Lib.hid (rheader_w seq (ls := []) (sl := []) (Wp.nil (w := w)) (by simp) (Sl.nil eb w) (by simp))
  by_cases f1 : seq < 0
  · have e : Jr.empty seq = ([], 2) := if_pos (Or.inl f1)
    rw [e]
    go_enter Try.func57, Try.ntmps57
    go_wp2
    go_ret2
    exact ⟨_, rfl, World.ownsRow_nil _ _ _ _, Below.refl _ _⟩
  · by_cases f2 : 4294967295 < seq
    · have e : Jr.empty seq = ([], 2) := if_pos (Or.inr f2)
      rw [e]
      have f3 : 0 ≤ seq := by omega
      go_enter Try.func57, Try.ntmps57
      go_wp2
      go_ret2
      exact ⟨_, rfl, World.ownsRow_nil _ _ _ _, Below.refl _ _⟩
    · have e : Jr.empty seq = (Jr.idle seq, 0) := if_neg (by omega)
      rw [e]
      have f3 : 0 ≤ seq := by omega
      have f4 : seq ≤ 4294967295 := by omega
      go_enter Try.func57, Try.ntmps57
      go_wp2_with (go_at_call 83; refine HH.out.mono ?_; rintro e w1 ⟨v1, rfl, ho1, hb1⟩)
      go_ret2
      refine ⟨_, rfl, ?_, hb1⟩
      rw [show (Jr.idle seq).length = 128 from Jr.mk_len _ _ _ _]
      exact ho1

theorem Try.zeroBool (w : World) : (zeroValue 4).run Try.prog w = .ok (.bool false) w := by kernel_rfl
theorem drewN_low (w : World) (q : Nat) : Below w.heap.size w (w.drewN q) := ⟨rfl, rfl, rfl, Nat.le_refl _, fun _ _ => rfl⟩
theorem hid_and {p q : Prop} (h : p) (k : q) : Hid (p ∧ q) := ⟨h, k⟩

set_option maxRecDepth 100000 in
set_option maxHeartbeats 1600000 in
theorem jvalid_w {v : Value} {ls : List Jr.Wr} {w : World} (hv : Wp w v ls) (hl : ls.length ≤ 1000) : Calls Try.prog 33 #[v] w fun e w' => e = .returned (.bool (Jr.valid ls)) ∧ Below w.heap.size w w' := by
  obtain ⟨a, cap, rfl, h1, h2, h3, hop⟩ := hv.open
  have HOP := Lib.hid hop
  have HVN := Lib.hid (fun k (hk : k < ls.length) (h : Jr.good ls[k] = false) => Jr.valid_good hk h)
  have HVT := Lib.hid (fun k (hk : k < ls.length) (h : ls[k].1 ∈ (ls.take k).map Prod.fst) => Jr.valid_twice hk h)
  have HVY : Hid ((∀ i (h : i < ls.length), Jr.good ls[i] = true ∧ ls[i].1 ∉ (ls.take i).map Prod.fst) → Jr.valid ls = (decide (1 ≤ ls.length) && decide (ls.length ≤ 11))) := Lib.hid Jr.valid_yes
  have HM0 : Hid (Mb Try.prog 3 4 (w.alloc (.map #[] 0)) w.heap.size 0 (Jr.met ls 0)) := (Mb.made w Try.prog 3 4).as fun x _ => (Jr.met_zero ls x).symm
  have HB0 : Hid (Below w.heap.size w (w.alloc (.map #[] 0))) := low_alloc _ _
  have hmm := @run_makeMap Try.prog
  generalize Jr.valid ls = r at *
  clear hv hop
  go_enter Try.func33, Try.ntmps33
  go_wp2
  clear hmm
  go_loopw [5, 9] (fun _ i wr => ∃ k : Nat, i = .int .i64 k ∧ k ≤ ls.length ∧ Mb Try.prog 3 4 wr w.heap.size k (Jr.met ls k) ∧ Hid (∀ i (h : i < ls.length), i < k → Jr.good ls[i] = true ∧ ls[i].1 ∉ (ls.take i).map Prod.fst) ∧ Below w.heap.size w wr) (fun _ i _ => ls.length - (intOf i).toNat)
  case atStart => exact ⟨0, rfl, Nat.zero_le _, HM0.out, fun i _ h => absurd h (Nat.not_lt_zero _), HB0.out⟩
  case round =>
    obtain ⟨k, rfl, hk, hmb, HN, hbl⟩ := hrel
    by_cases hlt : k < ls.length
    · obtain ⟨b, off, a', c', rfl, hbw, ⟨x0, x1⟩, -⟩ := HOP.out k hlt
      have y0 : wr.cell? ⟨b, off + k * 2, none⟩ = some (.int .i64 ls[k].1) := by rw [hbl.cell (p := ⟨b, off + k * 2, none⟩) hbw]; exact x0
      have y1 : wr.cell? ⟨b, off + k * 2 + 1, none⟩ = some (.slice a' ls[k].2.length c') := by rw [hbl.cell (p := ⟨b, off + k * 2 + 1, none⟩) hbw]; exact x1
      have f1 : (0 : Int) ≤ (k : Int) := by omega
      have f2 : (k : Int) < (ls.length : Int) := by omega
      have hbs := hbl.size
      have HBL := Lib.hid hbl
      have hvn := HVN.out k hlt
      have hvt := HVT.out k hlt
      have HMS := Lib.hid (Jr.met_step ls k hlt)
      have HMB := Lib.hid hmb
      have hgood : Jr.good ls[k] = (Jr.home ls[k].1 && decide (ls[k].2.length = 128)) := rfl
      have HNX : Hid (Jr.good ls[k] = true → ls[k].1 ∉ (ls.take k).map Prod.fst → ∀ i (h : i < ls.length), i < k + 1 → Jr.good ls[i] = true ∧ ls[i].1 ∉ (ls.take i).map Prod.fst) := fun g1 g2 i h hi => by
        by_cases e : i = k
        · subst e; exact ⟨g1, g2⟩
        · exact HN.out i h (by omega)
      have hmet : Jr.met ls k ls[k].1 = decide (ls[k].1 ∈ (ls.take k).map Prod.fst) := rfl
      have hwf : Jr.home ls[k].1 = true → (Lit.int .i64 ls[k].1).wf = true := fun h => by
        unfold Jr.home at h
        simp only [Bool.and_eq_true, decide_eq_true_eq] at h
        exact WalkArith.wf_i64 (by omega)
      clear x0 x1 hbl hmb
      generalize ls[k].1 = n at *
      generalize ls[k].2.length = m at *
      generalize Jr.good ls[k] = g at *
      have HJH := Lib.hid (fun W => jhome_w n W)
      cases hh : Jr.home n with
      | false =>
        rw [hh] at HJH
        have HR := Lib.hid (hvn (by rw [hgood, hh, Bool.false_and]))
        clear hvn hvt hgood hmet hwf hh
        go_wp2_with (go_at_call 66; (with_reducible refine (HJH.out _).mono ?_); rintro e w1 ⟨rfl, rfl⟩)
        go_ret
        exact ⟨ret_bool HR.out.symm, HBL.out.alloc hbs _⟩
      | true =>
        rw [hh] at HJH
        have HWF := Lib.hid (hwf hh)
        have hlk : ∀ o, (Instr.lookup 104 (.map (some w.heap.size)) (.int .i64 n) false).run Try.prog (wr.alloc o) = .ok (.bool (Jr.met ls k n)) (wr.alloc o) := fun o => (HMB.out.alloc o).look Try.underlying3 Try.underlying104 Try.underlying4 (Try.zeroBool _) HWF.out
        cases hm : Jr.met ls k n with
        | true =>
          rw [hm] at hlk
          have HR := Lib.hid (hvt (by rw [hmet] at hm; simpa using hm))
          clear hvn hvt hgood hmet hwf hh hm
          go_wp2_with (first | (go_at_call 66; (with_reducible refine (HJH.out _).mono ?_); rintro e w1 ⟨rfl, rfl⟩))
          go_ret
          exact ⟨ret_bool HR.out.symm, HBL.out.alloc hbs _⟩
        | false =>
          rw [hm] at hlk
          by_cases h128 : m = 128
          · have HR := Lib.hid (HNX.out (by rw [hgood, hh, Bool.true_and]; simpa using h128) (by rw [hmet] at hm; simpa using hm))
            have f3 : ((m : Int) != 128) = false := by rw [h128]; rfl
            have f4 : (m : Int) = 128 := by omega
            clear hvn hvt hgood hmet hwf hh hm h128
            go_wp2_with (first | (go_at_call 66; (with_reducible refine (HJH.out _).mono ?_); rintro e w1 ⟨rfl, rfl⟩) | (at_mapUpdate; refine wpList_update_mb rfl _ _ _ 104 rfl 3 4 Try.underlying3 Try.underlying104 Try.underlying4 w.heap.size k (Jr.met ls k) rfl (HMB.out.alloc _) (by unfold maxLen; omega) n rfl HWF.out true rfl ?_; intro w3 hmb3 hg3))
            go_roundw
            case rel => exact ⟨k + 1, by go_num, by omega, hmb3.as fun x _ => HMS.out x, HR.out, (HBL.out.alloc hbs _).trans (below_of_grown hg3 (Nat.le_refl _) (by simp; omega))⟩
            case measure => simp [intOf]; omega
          · have HR := Lib.hid (hvn (by rw [hgood, decide_eq_false h128, Bool.and_false]))
            have f3 : ((m : Int) != 128) = true := by rw [bne_iff_ne]; omega
            clear hvn hvt hgood hmet hwf hh hm h128
            go_wp2_with (first | (go_at_call 66; (with_reducible refine (HJH.out _).mono ?_); rintro e w1 ⟨rfl, rfl⟩))
            go_ret
            exact ⟨ret_bool HR.out.symm, HBL.out.alloc hbs _⟩
    · obtain rfl : k = ls.length := by omega
      have HR := Lib.hid (HVY.out fun i h => HN.out i h h)
      have HBL := Lib.hid hbl
      clear hmb hbl
      by_cases g1 : 1 ≤ ls.length
      · by_cases g2 : ls.length ≤ 11
        · go_wp2
          go_ret
          exact ⟨ret_bool (by rw [HR.out]; simp [g1, g2] <;> omega), HBL.out⟩
        · go_wp2
          go_ret
          exact ⟨ret_bool (by rw [HR.out]; simp [g1, g2] <;> omega), HBL.out⟩
      · go_wp2
        go_ret
        exact ⟨ret_bool (by rw [HR.out]; simp [g1]), HBL.out⟩

end Go.Proofs.Ytbklmpekpcneeaa

set_option maxRecDepth 100000
namespace Go.Proofs.Ytbklmpekpcneeaa
open Go.RowKit

set_option maxHeartbeats 400000 in
/-- slices.IndexFunc: `I k` holds of the world before the function is asked of element number k. -/
theorem indexFunc_bytes {α : Type} (enc : α → Value) (a : Option Addr) (cap : Nat) (xs : List α) (g : Nat) (lb : Array Value) (p : Nat → Bool) (I : Nat → World → Prop) (w : World) (hm : xs.length ≤ 9223372036854775807)
    (eg : ∀ args w, (callFunc g args).run Try.prog w = .ok (.enter g args) w)
    (hr : ∀ k W, I k W → Rd enc W a xs) (h0 : I 0 w)
    (hp : ∀ k W (hk : k < xs.length), I k W → Calls Try.prog g (#[enc xs[k]] ++ lb) W fun e W' => e = .returned (.bool (p k)) ∧ I (k + 1) W') :
    Calls Try.prog 95 #[.slice a xs.length cap, .func (.func g) #[] lb] w fun e w' => e = .returned (.int .i64 (Ix.idx p xs.length)) ∧ ∃ k, k ≤ xs.length ∧ I k w' := by
  have HP := Lib.hid hp
  have HR := Lib.hid hr
  have H0 := Lib.hid h0
  clear hp hr h0
  go_enter Try.func95, Try.ntmps95
  go_wp2
  go_loopw [5, 8] (fun _ i wr => ∃ k : Nat, k ≤ xs.length ∧ i = .int .i64 k ∧ (∀ j, j < k → p j = false) ∧ I k wr) (fun _ i _ => xs.length - (intOf i).toNat)
  case atStart => exact ⟨0, Nat.zero_le _, rfl, fun j hj => absurd hj (Nat.not_lt_zero _), H0.out⟩
  case round =>
    obtain ⟨k, hk, rfl, hno, hI⟩ := hrel
    have HN := Lib.hid hno
    have HI := Lib.hid hI
    clear hno hI
    by_cases hlt : k < xs.length
    · have HC := HP.out k wr hlt HI.out
      obtain ⟨b, off, rfl, hb, hc⟩ := (HR.out k wr HI.out).form (by omega)
      have hck := hc k hlt
      clear hc
      generalize hpv : p k = pv at HC
      have HPV := Lib.hid hpv
      clear hpv
      cases pv with
      | true =>
        go_wp2_with (go_at_fn g; refine HC.mono ?_; rintro e w1 ⟨rfl, h1⟩)
        have H1 := Lib.hid h1
        clear h1
        go_wp2
        go_ret
        have := Ix.idx_some hlt HPV.out HN.out
        exact ⟨ret_int this.symm, k + 1, hlt, H1.out⟩
      | false =>
        go_wp2_with (go_at_fn g; refine HC.mono ?_; rintro e w1 ⟨rfl, h1⟩)
        have H1 := Lib.hid h1
        clear h1
        go_wp2
        go_roundw
        case rel => exact ⟨k + 1, by omega, by go_num, fun j hj => by by_cases e : j = k; { subst e; exact HPV.out }; exact HN.out j (by omega), H1.out⟩
        case measure => simp [intOf]; omega
    · go_wp2
      go_ret
      have h1 := Ix.idx_none (p := p) (n := xs.length) fun i hi => HN.out i (by omega)
      exact ⟨ret_int h1.symm, k, hk, HI.out⟩

set_option maxHeartbeats 400000 in
theorem containsFunc_bytes {α : Type} (enc : α → Value) (a : Option Addr) (cap : Nat) (xs : List α) (g : Nat) (lb : Array Value) (p : Nat → Bool) (I : Nat → World → Prop) (w : World) (hm : xs.length ≤ 9223372036854775807)
    (eg : ∀ args w, (callFunc g args).run Try.prog w = .ok (.enter g args) w)
    (hr : ∀ k W, I k W → Rd enc W a xs) (h0 : I 0 w)
    (hp : ∀ k W (hk : k < xs.length), I k W → Calls Try.prog g (#[enc xs[k]] ++ lb) W fun e W' => e = .returned (.bool (p k)) ∧ I (k + 1) W') :
    Calls Try.prog 86 #[.slice a xs.length cap, .func (.func g) #[] lb] w fun e w' => e = .returned (.bool (Ix.any p xs.length)) ∧ ∃ k, k ≤ xs.length ∧ I k w' := by
  have HX := Lib.hid (indexFunc_bytes enc a cap xs g lb p I w hm eg hr h0 hp)
  have HA := Lib.hid (Ix.any_iff p xs.length)
  clear hr h0 hp
  generalize Ix.idx p xs.length = r at *
  go_enter Try.func86, Try.ntmps86
  go_wp2_with (go_at_call 95; refine HX.out.mono ?_; rintro e w' ⟨rfl, h1⟩; have H1 := Lib.hid h1; clear h1)
  go_ret
  exact ⟨ret_bool HA.out.symm, H1.out⟩

theorem any_mem (x : Int) (xs : List Int) : Ix.any (fun k => decide (x = xs.getD k 0)) xs.length = decide (x ∈ xs) := by
  rw [Bool.eq_iff_iff, decide_eq_true_iff]
  unfold Ix.any
  rw [List.any_eq_true]
  constructor
  · rintro ⟨k, hk, h⟩
    have hk' : k < xs.length := by simpa using hk
    simp only [List.getD, List.getElem?_eq_getElem hk', Option.getD_some, decide_eq_true_eq] at h
    rw [h]
    exact List.getElem_mem hk'
  · intro h
    obtain ⟨k, hk, rfl⟩ := List.getElem_of_mem h
    exact ⟨k, by simpa using hk, by simp [List.getD, hk]⟩

theorem any_zer (xs : List UInt8) : Ix.any (fun k => !decide (xs.getD k 0 = 0)) xs.length = !decide (∀ x ∈ xs, x = 0) := by
  rw [Bool.eq_iff_iff]
  unfold Ix.any
  rw [List.any_eq_true]
  simp only [Bool.not_eq_true', decide_eq_false_iff_not, List.mem_range]
  constructor
  · rintro ⟨k, hk, h⟩ hall
    apply h
    rw [List.getD, List.getElem?_eq_getElem hk]
    exact hall _ (List.getElem_mem hk)
  · intro h
    refine Classical.byContradiction fun hn => h fun x hx => ?_
    obtain ⟨k, hk, rfl⟩ := List.getElem_of_mem hx
    refine Classical.byContradiction fun hz => hn ⟨k, hk, ?_⟩
    rw [List.getD, List.getElem?_eq_getElem hk]
    exact hz

/-- What blocks answers. -/
def RetBl (h : List UInt8) (W : World) (e : Ending) (w' : World) : Prop := ∃ v, e = .returned (.tuple #[v, .bool (Jr.formOk h)]) ∧ (Jr.formOk h = true → w'.ownsRow W.heap.size 3 1 v (Jr.cnt h) ((Jr.bls h (Jr.cnt h)).map (.int .i64))) ∧ Below W.heap.size W w'

theorem retBl_no {r : Bool} (e : r = false) {v : Value} {W w' : World} {n : Nat} {cs : List Value} (hb : Below W.heap.size W w') : ∃ v', Ending.returned (.tuple #[v, .bool false]) = .returned (.tuple #[v', .bool r]) ∧ (r = true → w'.ownsRow W.heap.size 3 1 v' n cs) ∧ Below W.heap.size W w' := by
  subst e
  exact ⟨_, rfl, fun e => (by cases e), hb⟩

end Go.Proofs.Ytbklmpekpcneeaa

namespace Go.Proofs.Ytbklmpekpcneeaa
open Go.RowKit

section
variable {P : Program} {w : World} {ops : Array Oper} {rest : List Oper} {o : Oper} {a : Act} {Q : Exit → Act → World → Prop}

/-- The bytes lie in a block that is not in L and is not v's. -/
theorem own_av {w : World} {base : Nat} {e : TypeId} {u v : Value} {n : Nat} {xs : List UInt8} {L : List Nat} (h : w.ownsRow base e 1 u n (xs.map eb)) (hL : ∀ b ∈ L, b < base) (hv : ∀ b, v.ownBlock = some b → b < base) : Av (Bx L v) (fun W => Sl eb W u xs) w := fun W' hW =>
  Sl.ofOwn (own_keep h fun k hk => hW k (h.lt k hk).2 fun hx => by
    have h1 := (h.lt k hk).1
    rcases hx with hx | hx
    · have := hL k hx; omega
    · have := hv k hx; omega)

theorem wp_append_wo {K : Act → World → Prop} (s x : Operand) (t : TypeId) (ho : o.op = .call { callee := .builtin .append, args := #[s, x], argTypes := #[t, t] })
    (B : Nat) (T : TypeId) (i : TypeInfo) (z : Value) (ht : P.underlying t = some (.slice T)) (hi : P.info? T = some i) (hz : i.zero = some z) (hsize : i.size = 2) (hby : i.bytes = 32) (hzs : z.cells.size = 2)
    (L : List Nat) (v : Value) (ls : List Jr.Wr) (hs : a.eval s = v) (h : Wo B T L w v ls) (hm : ls.length ≤ 100000)
    (g : Nat) (n : Int) (u : Value) (bs : List UInt8) (hx : a.eval x = .slice (some ⟨g, 0, none⟩) 1 1) (hg : w.heap[g]? = some (.cells #[.int .i64 n, u] T (0, 0))) (hu : Av (Bx L v) (fun W => Sl eb W u bs) w) (hB : B ≤ w.heap.size)
    (hK : ∀ v' w', Wo B T L w' v' (ls ++ [(n, bs)]) → Spares w w' v v' → Below B w w' → K (a.put o.dst v') w') : o.wp P a w K Q := by
  obtain ⟨es, h1, h2⟩ := h
  have hlen := h2.here.1
  obtain ⟨ad, c, hsl, -⟩ := hu.here
  have hrm : Rm 2 ew w (some ⟨g, 0, none⟩) [(n, ad, bs.length, c)] := fun j hj => by
    simp at hj
    subst hj
    refine ⟨g, 0, rfl, (Array.getElem?_eq_some_iff.1 hg).1, fun q hq => ?_⟩
    rw [cell_of_row _ _ _ _ _ _ hg]
    subst hsl
    simp [ew]
  refine wp_append_m ew ew_len (by decide) ew_one s x t ho B T i z 32 ht hi hz hsize hby hzs v es.length es hs h1 (some ⟨g, 0, none⟩) 1 [(n, ad, bs.length, c)] 1 hx rfl (by simp) (by omega) hrm (by unfold maxLen; omega) (by omega) hB ?_
  intro v' w' h3 h4 h5
  refine hK v' w' ⟨_, by rw [List.length_append]; exact h3, ?_⟩ h4 h5
  have hav : Av (Bx L v) (fun W => WsR W (es ++ [(n, ad, bs.length, c)]) (ls ++ [(n, bs)])) w := (h2.and hu).mono fun W hW => hW.1.snoc ⟨rfl, by have := hW.2; rw [hsl] at this; exact this⟩
  exact hav.spare h5.size h4

theorem wpList_append_wo (hgd : o.guard = none) (s x : Operand) (t : TypeId) (ho : o.op = .call { callee := .builtin .append, args := #[s, x], argTypes := #[t, t] })
    (B : Nat) (T : TypeId) (i : TypeInfo) (z : Value) (ht : P.underlying t = some (.slice T)) (hi : P.info? T = some i) (hz : i.zero = some z) (hsize : i.size = 2) (hby : i.bytes = 32) (hzs : z.cells.size = 2)
    (L : List Nat) (v : Value) (ls : List Jr.Wr) (hs : a.eval s = v) (h : Wo B T L w v ls) (hm : ls.length ≤ 100000)
    (g : Nat) (n : Int) (u : Value) (bs : List UInt8) (hx : a.eval x = .slice (some ⟨g, 0, none⟩) 1 1) (hg : w.heap[g]? = some (.cells #[.int .i64 n, u] T (0, 0))) (hu : Av (Bx L v) (fun W => Sl eb W u bs) w) (hB : B ≤ w.heap.size)
    (hK : ∀ v' w', Wo B T L w' v' (ls ++ [(n, bs)]) → Spares w w' v v' → Below B w w' → wpList P ops Q rest (a.put o.dst v') w') : wpList P ops Q (o :: rest) a w :=
  wpList_plain hgd fun _ hK' => wp_append_wo s x t ho B T i z ht hi hz hsize hby hzs L v ls hs h hm g n u bs hx hg hu hB fun v' w' h2 h3 h4 => hK' _ _ (hK v' w' h2 h3 h4)

theorem step_append_wo {K : Act → World → Prop} {E : Prop} (hgd : o.guard = none) (s x : Operand) (t : TypeId) (ho : o.op = .call { callee := .builtin .append, args := #[s, x], argTypes := #[t, t] })
    (B : Nat) (T : TypeId) (i : TypeInfo) (z : Value) (ht : P.underlying t = some (.slice T)) (hi : P.info? T = some i) (hz : i.zero = some z) (hsize : i.size = 2) (hby : i.bytes = 32) (hzs : z.cells.size = 2)
    (L : List Nat) (v : Value) (ls : List Jr.Wr) (hs : a.eval s = v) (h : Wo B T L w v ls) (hm : ls.length ≤ 100000)
    (g : Nat) (n : Int) (u : Value) (bs : List UInt8) (hx : a.eval x = .slice (some ⟨g, 0, none⟩) 1 1) (hg : w.heap[g]? = some (.cells #[.int .i64 n, u] T (0, 0))) (hu : Av (Bx L v) (fun W => Sl eb W u bs) w) (hB : B ≤ w.heap.size)
    (hK : ∀ v' w', Wo B T L w' v' (ls ++ [(n, bs)]) → Spares w w' v v' → Below B w w' → K (a.put o.dst v') w') :
    if Region.wanted o (yielded ops a.tmps) = true then Oper.wp P o a w K Q else E := by
  have hw : Region.wanted o (yielded ops a.tmps) = true := by simp [Region.wanted, hgd]
  rw [if_pos hw]
  exact wp_append_wo s x t ho B T i z ht hi hz hsize hby hzs L v ls hs h hm g n u bs hx hg hu hB hK
end

theorem own_base {B B' s n : Nat} {e : TypeId} {w : World} {v : Value} {cs : List Value} (h : w.ownsRow B e s v n cs) (hb : B' ≤ B) : w.ownsRow B' e s v n cs := by
  refine ⟨h.1, h.2.elim .inl ?_⟩
  rintro ⟨g, cap, cur, hv, hg, r⟩
  exact .inr ⟨g, cap, cur, hv, by omega, r⟩
theorem Wo.base {B B' : Nat} {T : TypeId} {L : List Nat} {w : World} {v : Value} {ls : List Jr.Wr} (h : Wo B T L w v ls) (hb : B' ≤ B) : Wo B' T L w v ls := by
  obtain ⟨es, h1, h2⟩ := h
  exact ⟨es, own_base h1 hb, h2⟩
theorem Wo.lt {B : Nat} {T : TypeId} {L : List Nat} {w : World} {v : Value} {ls : List Jr.Wr} (h : Wo B T L w v ls) : ∀ b, v.ownBlock = some b → B ≤ b ∧ b < w.heap.size := by
  obtain ⟨es, h1, -⟩ := h
  exact fun b hb => h1.lt b hb
end Go.Proofs.Ytbklmpekpcneeaa

namespace Go.Proofs.Ytbklmpekpcneeaa
open Go.RowKit

/-- What Read answers, of both. -/
def RetRead (T : TypeId) (d : List UInt8) (W : World) (e : Ending) (w' : World) : Prop :=
  ∃ v, e = .returned (.tuple #[.int .i64 (Jr.read d).1, v, .int .i64 (Jr.read d).2.2]) ∧ Wo W.heap.size T [] w' v (Jr.read d).2.1 ∧ Below W.heap.size W w'

theorem retRead_mk {T : TypeId} {d : List UInt8} {W w' : World} {n e : Int} {l : List Jr.Wr} (h : Jr.read d = (n, l, e)) {v : Value} (ho : Wo W.heap.size T [] w' v l) (hb : Below W.heap.size W w') : RetRead T d W (.returned (.tuple #[.int .i64 n, v, .int .i64 e])) w' := by
  unfold RetRead
  rw [h]
  exact ⟨v, rfl, ho, hb⟩

theorem Jr.blk_eq (d : List UInt8) (n : Nat) : Jr.blk d n = (d.drop (n * 128)).take 128 := rfl
theorem Jr.logged_succ (d : List UInt8) (k : Nat) : Jr.logged d (k + 1) = Jr.logged d k ++ [(((Jr.ent (Jr.blk d 1) k).toNat : Int), Jr.blk d (2 + k))] := by
  unfold Jr.logged
  rw [List.range_succ, List.map_append]
  rfl
theorem Jr.seq_lt (d : List UInt8) (hd : d.length = 12288) : (Jr.get (((Jr.blk d 1).drop 16).take 4)).toNat < 4294967296 := by
  have hl := Jr.blk_len d 1 (by omega)
  have h4 : (((Jr.blk d 1).drop 16).take 4).length = 4 := by simp; omega
  rw [Jr.get_nat _ (by omega)]
  have := Jr.horn_lt (((Jr.blk d 1).drop 16).take 4)
  rw [h4] at this
  simpa using this
theorem Jr.u64_ne {a b : UInt64} (h : a ≠ b) : ((a.toNat : Int) != (b.toNat : Int)) = true := by
  rw [bne_iff_ne]
  intro e
  exact h (UInt64.toNat_inj.1 (by omega))

end Go.Proofs.Ytbklmpekpcneeaa

namespace Jr
theorem horn_step (l : List UInt8) (k : Nat) (hk : k < l.length) : horn (l.take (k + 1)) = 256 * horn (l.take k) + l[k].toNat := by
  rw [List.take_succ_eq_append_getElem hk, horn_snoc]
theorem read_many {d : List UInt8} (hd : d.length = 12288) (h : 11 < cnt (blk d 1)) : read d = (0, [], 4) := by
  unfold read
  rw [if_neg (show ¬ d.length ≠ 12288 by simpa using hd)]
  exact if_pos (Or.inl h)
theorem read_bad {d : List UInt8} (hd : d.length = 12288) (h0 : 0 < cnt (blk d 1)) (h : cnt (blk d 1) ≤ 11) (hv : valid (logged d (cnt (blk d 1))) = false) : read d = (0, [], 4) := by
  unfold read
  rw [if_neg (show ¬ d.length ≠ 12288 by simpa using hd)]
  refine if_pos (Or.inr ⟨h0, ?_⟩)
  show valid (logged d (min (cnt (blk d 1)) 11)) = false
  rw [Nat.min_eq_left h]
  exact hv
theorem read_good {d : List UInt8} (hd : d.length = 12288) (h : cnt (blk d 1) ≤ 11) (hv : cnt (blk d 1) < 1 ∨ valid (logged d (cnt (blk d 1))) = true) (W : List UInt8) (hW : W = head (seqOf d) (logged d (cnt (blk d 1))) (slots d)) :
    read d = if (blk d 1).take 20 ≠ W.take 20 ∨ (blk d 1).drop 28 ≠ W.drop 28 then (0, [], 4) else if ((blk d 1).drop 20).take 8 ≠ (W.drop 20).take 8 then (0, [], 5) else (seqOf d, logged d (cnt (blk d 1)), 0) := by
  unfold read
  rw [if_neg (show ¬ d.length ≠ 12288 by simpa using hd)]
  have e : ((blk d 1).getD 4 0).toNat = cnt (blk d 1) := rfl
  simp only [e, Nat.min_eq_left h]
  rw [if_neg, hW]
  rintro (h1 | ⟨h1, h2⟩)
  · omega
  · rcases hv with hv | hv
    · omega
    · rw [hv] at h2; cases h2
end Jr
namespace Go.Proofs.Ytbklmpekpcneeaa
open Go.RowKit

theorem str_ne {a b : List UInt8} (h : a ≠ b) : (a == b) = false ∧ (a != b) = true := by simp [h]

/-- The bytes 16 to 19 as a number. -/
def q4 (h : List UInt8) : List UInt8 := (h.drop 16).take 4

end Go.Proofs.Ytbklmpekpcneeaa

namespace Jr
theorem app_snoc (d : List UInt8) (l : List Wr) (w : Wr) : app d (l ++ [w]) = put (app d l) (w.1.toNat * 128) w.2 := by
  induction l generalizing d with
  | nil => rfl
  | cons x l ih => exact ih _
theorem app_take (d : List UInt8) (l : List Wr) (k : Nat) (hk : k < l.length) : app d (l.take (k + 1)) = put (app d (l.take k)) (l[k].1.toNat * 128) l[k].2 := by
  rw [List.take_succ_eq_append_getElem hk, app_snoc]
theorem put_len (d : List UInt8) (p : Nat) (s : List UInt8) (h : p + s.length ≤ d.length) : (put d p s).length = d.length := by
  unfold put
  rw [List.length_append, List.length_append, List.length_take, List.length_drop]
  omega
end Jr
namespace Go.Proofs.Ytbklmpekpcneeaa
open Go.RowKit

theorem splice_put (xs ys : List UInt8) (off : Nat) : splice (xs.map eb) off (ys.map eb) = (Jr.put xs off ys).map eb := by
  unfold splice Jr.put
  rw [List.map_append, List.map_append, List.map_take, List.map_drop, List.length_map]
  simp only [List.append_assoc]

theorem splice_take {α : Type} (L cs : List α) (off n : Nat) (h : off + cs.length ≤ n) (hn : n ≤ L.length) : (splice L off cs).take n = splice (L.take n) off cs := by
  apply List.ext_getElem?
  intro j
  rw [List.getElem?_take, splice_get _ _ _ (by omega), splice_get _ _ _ (by rw [List.length_take]; omega)]
  simp only [List.getElem?_take]
  by_cases h1 : j < n
  · simp only [if_pos h1]
  · rw [if_neg h1, if_neg (by omega), if_neg (by omega), if_neg h1]

/-- The row's block, known whole. -/
theorem own_bk' {w : World} {base g n cap : Nat} {e : TypeId} {cs : List Value} (h : w.ownsRow base e 1 (.slice (some ⟨g, 0, none⟩) n cap) n cs) : base ≤ g ∧ n ≤ cap ∧ cap ≤ maxLen ∧ ∃ cur : List Value, Bk w g e cur ∧ cur.length = cap ∧ cur.take n = cs := by
  rcases h.2 with ⟨h1, -⟩ | ⟨g', cap', cur, h1, h2, h3, h4, h5, h6, h7⟩
  · simp at h1
  · simp only [Value.slice.injEq, Option.some.injEq, Addr.mk.injEq, and_true, true_and] at h1
    obtain ⟨rfl, rfl⟩ := h1
    exact ⟨h2, h4, h5, cur.toList, h3, by simpa using h6, by simpa using h7⟩
theorem bk_own {w : World} {base g n cap : Nat} {e : TypeId} {cur : List Value} (hb : base ≤ g) (hn : n ≤ cap) (hc : cap ≤ maxLen) (h : Bk w g e cur) (hl : cur.length = cap) : w.ownsRow base e 1 (.slice (some ⟨g, 0, none⟩) n cap) n (cur.take n) :=
  ⟨by rw [List.length_take]; omega, .inr ⟨g, cap, cur.toArray, rfl, hb, h, hn, hc, by simpa using hl, by simp⟩⟩

section
variable {P : Program} {w : World} {ops : Array Oper} {rest : List Oper} {o : Oper} {a : Act} {Q : Exit → Act → World → Prop}
/-- `copy(out[off:off+m], src)`, out the call's own. -/
theorem wp_copy_own8 {K : Act → World → Prop} (d s : Operand) (dT sT : TypeId) (ho : o.op = .call { callee := .builtin .copy, args := #[d, s], argTypes := #[dT, sT] }) (e : TypeId) (hu : P.underlying dT = some (.slice e)) (hsz : (P.info? e).map (·.size) = some 1)
    (base g n cap : Nat) (xs : List UInt8) (hown : w.ownsRow base e 1 (.slice (some ⟨g, 0, none⟩) n cap) n (xs.map eb)) (off m dCap : Nat) (hd : a.eval d = .slice (some ⟨g, off, none⟩) m dCap) (hfit : off + m ≤ n)
    (u : Value) (ys : List UInt8) (hs : a.eval s = u) (hsl : Sl eb w u ys)
    (h : ∀ w', w'.ownsRow base e 1 (.slice (some ⟨g, 0, none⟩) n cap) n ((Jr.put xs off (ys.take m)).map eb) → w.grownBy w' (some g) → K (a.put o.dst (goInt (Nat.min ys.length m))) w') : o.wp P a w K Q := by
  obtain ⟨hbg, hnc, hcm, cur, hbk, hcl, hct⟩ := own_bk' hown
  obtain ⟨sp, c, rfl, h1, h2, h3, h4⟩ := hsl
  have hm1 : Nat.min ys.length m ≤ m := Nat.min_le_right ys.length m
  refine wp_copy_rd eb (fun _ => rfl) d s dT sT ho e hu hsz (some ⟨g, off, none⟩) g off m dCap sp ys ys.length c (Nat.min ys.length m) hd hs rfl rfl (fun _ => rfl) h4 cur e hbk (by omega) ?_
  intro w' hb' hg'
  refine h w' ?_ hg'
  have hl3 : (ys.take (Nat.min ys.length m)).length = Nat.min ys.length m := by rw [List.length_take]; exact Nat.min_eq_left (Nat.min_le_left _ _)
  have hl2 : (splice cur off ((ys.take (Nat.min ys.length m)).map eb)).length = cap := by
    unfold splice
    rw [List.length_append, List.length_append, List.length_take, List.length_drop, List.length_map, hl3]
    omega
  have hz := bk_own (n := n) hbg hnc hcm hb' hl2
  have ht : ys.take (Nat.min ys.length m) = ys.take m := by
    by_cases h : m ≤ ys.length
    · rw [show Nat.min ys.length m = m from Nat.min_eq_right h]
    · rw [show Nat.min ys.length m = ys.length from Nat.min_eq_left (by omega), List.take_of_length_le (Nat.le_refl _), List.take_of_length_le (by omega)]
  rw [splice_take _ _ _ _ (by rw [List.length_map, hl3]; omega) (by omega), hct, splice_put, ht] at hz
  exact hz

theorem wpList_copy_own8 (hgd : o.guard = none) (d s : Operand) (dT sT : TypeId) (ho : o.op = .call { callee := .builtin .copy, args := #[d, s], argTypes := #[dT, sT] }) (e : TypeId) (hu : P.underlying dT = some (.slice e)) (hsz : (P.info? e).map (·.size) = some 1)
    (base g n cap : Nat) (xs : List UInt8) (hown : w.ownsRow base e 1 (.slice (some ⟨g, 0, none⟩) n cap) n (xs.map eb)) (off m dCap : Nat) (hd : a.eval d = .slice (some ⟨g, off, none⟩) m dCap) (hfit : off + m ≤ n)
    (u : Value) (ys : List UInt8) (hs : a.eval s = u) (hsl : Sl eb w u ys)
    (h : ∀ w', w'.ownsRow base e 1 (.slice (some ⟨g, 0, none⟩) n cap) n ((Jr.put xs off (ys.take m)).map eb) → w.grownBy w' (some g) → wpList P ops Q rest (a.put o.dst (goInt (Nat.min ys.length m))) w') : wpList P ops Q (o :: rest) a w :=
  wpList_plain hgd fun _ hK => wp_copy_own8 d s dT sT ho e hu hsz base g n cap xs hown off m dCap hd hfit u ys hs hsl fun w' h1 h2 => hK _ _ (h w' h1 h2)

theorem step_copy_own8 {K : Act → World → Prop} {E : Prop} (hgd : o.guard = none) (d s : Operand) (dT sT : TypeId) (ho : o.op = .call { callee := .builtin .copy, args := #[d, s], argTypes := #[dT, sT] }) (e : TypeId) (hu : P.underlying dT = some (.slice e)) (hsz : (P.info? e).map (·.size) = some 1)
    (base g n cap : Nat) (xs : List UInt8) (hown : w.ownsRow base e 1 (.slice (some ⟨g, 0, none⟩) n cap) n (xs.map eb)) (off m dCap : Nat) (hd : a.eval d = .slice (some ⟨g, off, none⟩) m dCap) (hfit : off + m ≤ n)
    (u : Value) (ys : List UInt8) (hs : a.eval s = u) (hsl : Sl eb w u ys)
    (h : ∀ w', w'.ownsRow base e 1 (.slice (some ⟨g, 0, none⟩) n cap) n ((Jr.put xs off (ys.take m)).map eb) → w.grownBy w' (some g) → K (a.put o.dst (goInt (Nat.min ys.length m))) w') :
    if Region.wanted o (yielded ops a.tmps) = true then Oper.wp P o a w K Q else E := by
  have hw : Region.wanted o (yielded ops a.tmps) = true := by simp [Region.wanted, hgd]
  rw [if_pos hw]
  exact wp_copy_own8 d s dT sT ho e hu hsz base g n cap xs hown off m dCap hd hfit u ys hs hsl h
end
end Go.Proofs.Ytbklmpekpcneeaa

set_option maxRecDepth 100000
namespace Go.Proofs.Ytbklmpekpcneeaa
open Go.RowKit

/-- What Apply answers. -/
def RetApply (d : List UInt8) (ls : List Jr.Wr) (W : World) (e : Ending) (w' : World) : Prop :=
  ∃ v, e = .returned (.tuple #[v, .int .i64 (Jr.apply d ls).2]) ∧ w'.ownsRow W.heap.size 5 1 v (Jr.apply d ls).1.length ((Jr.apply d ls).1.map eb) ∧ Below W.heap.size W w'
theorem retApply_mk {d : List UInt8} {ls : List Jr.Wr} {W w' : World} {r : List UInt8} {c : Int} (h : Jr.apply d ls = (r, c)) {v : Value} {n : Nat} (hn : n = r.length) (ho : w'.ownsRow W.heap.size 5 1 v n (r.map eb)) (hb : Below W.heap.size W w') : RetApply d ls W (.returned (.tuple #[v, .int .i64 c])) w' := by
  unfold RetApply
  rw [h]
  subst hn
  exact ⟨v, rfl, ho, hb⟩
theorem Jr.apply_bad {d : List UInt8} {ls : List Jr.Wr} (hd : d.length = 12288) {k : Nat} (hk : k < ls.length) (h : Jr.fits ls[k] = false) : Jr.apply d ls = ([], 1) := by
  unfold Jr.apply
  rw [if_neg (show ¬ d.length ≠ 12288 by simpa using hd)]
  refine if_neg ?_
  rw [List.all_eq_true]
  intro h2
  have := h2 _ (List.getElem_mem hk)
  rw [h] at this
  cases this
theorem Jr.apply_good {d : List UInt8} {ls : List Jr.Wr} (hd : d.length = 12288) (h : ∀ k (hk : k < ls.length), Jr.fits ls[k] = true) : Jr.apply d ls = (Jr.app d ls, 0) := by
  unfold Jr.apply
  rw [if_neg (show ¬ d.length ≠ 12288 by simpa using hd)]
  refine if_pos ?_
  rw [List.all_eq_true]
  intro x hx
  obtain ⟨k, hk, rfl⟩ := List.getElem_of_mem hx
  exact h k hk
theorem Jr.fits_iff (w : Jr.Wr) : Jr.fits w = true ↔ 0 ≤ w.1 ∧ w.1 < 96 ∧ w.2.length = 128 := by
  unfold Jr.fits
  simp only [Bool.and_eq_true, decide_eq_true_eq]

theorem cell_far8 {w w' : World} {g b : Nat} (h : w.grownBy w' (some g)) (hb : b ≠ g) (o : Nat) (hlt : b < w.heap.size) : w'.cell? ⟨b, o, none⟩ = w.cell? ⟨b, o, none⟩ :=
  World.cell?_of_block (a := ⟨b, o, none⟩) (h.block b hlt (by simpa using hb))
theorem put_fix {w : World} {base n q : Nat} {v : Value} {xs bs : List UInt8} {T : TypeId} (h : w.ownsRow base T 1 v n ((Jr.put xs (q * 128) (bs.take 128)).map eb)) (hl : bs.length = 128) : w.ownsRow base T 1 v n ((Jr.put xs ((q : Int).toNat * 128) bs).map eb) := by
  rw [List.take_of_length_le (by omega)] at h
  exact h

set_option maxRecDepth 100000 in
set_option maxHeartbeats 4000000 in
theorem japply_w {v u : Value} {d : List UInt8} {ls : List Jr.Wr} {w : World} (hv : Sl eb w v d) (hu : Wp w u ls) (hl : ls.length ≤ 100000) : Calls Try.prog 32 #[v, u] w (RetApply d ls w) := by
  obtain ⟨a, cap, rfl, hc, hm, hna, -⟩ := id hv
  obtain ⟨ua, ucap, rfl, h1, h2, h3, hop⟩ := hu.open
  unfold maxLen at hm
  by_cases hd : d.length = 12288
  rotate_left
  · have HR : Hid (Jr.apply d ls = ([], 1)) := if_pos hd
    have hq : ((d.length : Int) != 12288) = true := by rw [bne_iff_ne]; omega
    clear hd hop hu
    go_enter Try.func32, Try.ntmps32
    go_wp2_with fail
    go_ret2
    exact retApply_mk HR.out rfl (World.ownsRow_nil _ _ _ _) (Below.refl _ _)
  · have HAB := Lib.hid (fun k hk h => Jr.apply_bad (ls := ls) hd (k := k) hk h)
    have HAG := Lib.hid (Jr.apply_good (ls := ls) hd)
    have HOP := Lib.hid hop
    have HAT := Lib.hid (fun k hk => Jr.app_take d ls k hk)
    have HAL : Hid (Jr.app d ls = Jr.app d (ls.take ls.length)) := by rw [List.take_length]; exact rfl
    have HCL := Lib.hid (bclone_w hv (by omega))
    rw [hd] at hv hc HCL ⊢
    obtain ⟨b0, off0, rfl, hb0, -, -, -⟩ := hv.addr (by omega)
    have HV := Lib.hid hv
    have HDL := Lib.hid hd
    have hszu : (Try.prog.info? 5).map (·.size) = some 1 := by kernel_rfl
    obtain ⟨i0, hi, hz0, hz1, hz2⟩ := info_parts Try.info5
    clear hop hu hv hd
    go_enter Try.func32, Try.ntmps32
    go_upto_region 4 with (go_at_call 64; (with_reducible refine HCL.out.mono ?_); rintro e w1 ⟨v1, rfl, ho1, hb1⟩)
    obtain ⟨g, cg, rfl⟩ := own_form ho1 (by omega)
    have HO1 := Lib.hid ho1
    have HB1 := Lib.hid hb1
    clear ho1 hb1
    go_wp2_with fail
    go_loopw [8, 16] (fun _ i wr => ∃ k : Nat, i = .int .i64 k ∧ k ≤ ls.length ∧ wr.ownsRow w.heap.size 5 1 (.slice (some ⟨g, 0, none⟩) 12288 cg) 12288 ((Jr.app d (ls.take k)).map eb) ∧ Hid (∀ j (hj : j < ls.length), j < k → Jr.fits ls[j] = true) ∧ Below w.heap.size w wr) (fun _ i _ => ls.length - (intOf i).toNat)
    case atStart => exact ⟨0, rfl, Nat.zero_le _, HO1.out, fun j _ h => absurd h (Nat.not_lt_zero _), HB1.out⟩
    case round =>
      obtain ⟨k, rfl, hk, ho, HN, hbl⟩ := hrel
      have HO := Lib.hid ho
      have HBL := Lib.hid hbl
      by_cases hlt : k < ls.length
      · obtain ⟨b, off, a', c', rfl, hbw, ⟨x0, x1⟩, hsx⟩ := HOP.out k hlt
        have y0 : wr.cell? ⟨b, off + k * 2, none⟩ = some (.int .i64 ls[k].1) := by rw [hbl.cell (p := ⟨b, off + k * 2, none⟩) hbw]; exact x0
        have y1 : wr.cell? ⟨b, off + k * 2 + 1, none⟩ = some (.slice a' ls[k].2.length c') := by rw [hbl.cell (p := ⟨b, off + k * 2 + 1, none⟩) hbw]; exact x1
        have f1 : (0 : Int) ≤ (k : Int) := by omega
        have f2 : (k : Int) < (ls.length : Int) := by omega
        have hbs := hbl.size
        have hab := HAB.out k hlt
        have HATk := Lib.hid (HAT.out k hlt)
        have HSX := Lib.hid hsx
        have hfi := Jr.fits_iff ls[k]
        have HNX : Hid (Jr.fits ls[k] = true → ∀ j (hj : j < ls.length), j < k + 1 → Jr.fits ls[j] = true) := fun h j hj hjk => by
          by_cases e : j = k
          · subst e; exact h
          · exact HN.out j hj (by omega)
        clear x0 x1 hsx ho hbl
        have hnf : ls[k].1 < 0 ∨ 96 ≤ ls[k].1 ∨ ls[k].2.length ≠ 128 → Jr.apply d ls = ([], 1) := fun h => hab (by
          rw [Bool.eq_false_iff]
          intro h2
          have := hfi.1 h2
          omega)
        generalize hbs2 : ls[k].2 = bs at *
        generalize hn1 : ls[k].1 = n at *
        have HBS := Lib.hid hbs2
        have HN1 := Lib.hid hn1
        clear hbs2 hn1
        by_cases c1 : n < 0
        · have HR := Lib.hid (hnf (.inl c1))
          clear hnf hab hfi
          go_wp2_with fail
          go_ret2
          exact retApply_mk HR.out rfl (World.ownsRow_nil _ _ _ _) (HBL.out.alloc hbs _)
        · by_cases c2 : 96 ≤ n
          · have HR := Lib.hid (hnf (.inr (.inl c2)))
            clear hnf hab hfi
            go_wp2_with fail
            go_ret2
            exact retApply_mk HR.out rfl (World.ownsRow_nil _ _ _ _) (HBL.out.alloc hbs _)
          · by_cases c3 : bs.length = 128
            · have HG := Lib.hid (HNX.out (hfi.2 (by omega)))
              obtain ⟨q, rfl⟩ : ∃ q : Nat, n = (q : Int) := ⟨n.toNat, by omega⟩
              have HBK := Lib.hid (fun W => block_w g 0 cg q (by omega) (own_bk' HO.out).2.1 (own_bk' HO.out).2.2.1 W)
              rw [c3] at HSX y1
              have HL128 := Lib.hid c3
              have f3 : ((128 : Int) != 128) = false := rfl
              have hq96 : (q : Int) < 96 := by omega
              clear hnf hab hfi c3 c1 c2
              go_upto_region 9 with fail
              have hg0 := (own_bk' HO.out).1
              have hgl := HO.out.lt g rfl
              have HL9 : Hid (Below w.heap.size w (wr.alloc (.cells #[.int .i64 (q : Int), .slice a' 128 c'] 66 (0, 0))).drew) := (HBL.out.alloc hbs _).drew
              have HO9 : Hid ((wr.alloc (.cells #[.int .i64 (q : Int), .slice a' 128 c'] 66 (0, 0))).drew.ownsRow w.heap.size 5 1 (.slice (some ⟨g, 0, none⟩) 12288 cg) 12288 ((Jr.app d (ls.take k)).map eb)) := own_below HO.out (low_adrew wr _)
              have HS9 : Hid (Sl eb (wr.alloc (.cells #[.int .i64 (q : Int), .slice a' 128 c'] 66 (0, 0))).drew (.slice a' 128 c') bs) := HSX.out.below HL9.out (Nat.le_refl _)
              have z0 : (wr.alloc (.cells #[.int .i64 (q : Int), .slice a' 128 c'] 66 (0, 0))).drew.cell? ⟨wr.heap.size, 0, none⟩ = some (.int .i64 (q : Int)) := by rw [World.cell?_drew, cell_of_row _ _ _ _ _ _ (heap_alloc_new wr _)]; rfl
              have z1 : (wr.alloc (.cells #[.int .i64 (q : Int), .slice a' 128 c'] 66 (0, 0))).drew.cell? ⟨wr.heap.size, 1, none⟩ = some (.slice a' 128 c') := by rw [World.cell?_drew, cell_of_row _ _ _ _ _ _ (heap_alloc_new wr _)]; rfl
              go_region_held3 (fun w' => w'.cell? ⟨wr.heap.size, 0, none⟩ = some (.int .i64 (q : Int)) ∧ w'.cell? ⟨wr.heap.size, 1, none⟩ = some (.slice a' 128 c')) (first | with_reducible assumption | go_keep) ((first
                | (go_at_call 65; (with_reducible refine (HBK.out _).mono ?_); rintro e w5 ⟨rfl, rfl⟩)
                | (refine step_copy_own8 rfl (.tmp 37) (.tmp 39) 25 25 rfl 5 Try.underlying25 hszu w.heap.size g 12288 cg (Jr.app d (ls.take k)) (HO9.out) (q * 128) 128 (cg - q * 128) rfl (by omega) (.slice a' 128 c') bs rfl HS9.out ?_; intro w7 ho7 hg7; have z07 := (cell_far8 hg7 (show wr.heap.size ≠ g by omega) 0 (by simp)).trans z0; have z17 := (cell_far8 hg7 (show wr.heap.size ≠ g by omega) 1 (by simp)).trans z1)))
              all_goals
                go_wp2_with fail
                go_roundw
                case rel => exact ⟨k + 1, by go_num, by omega, by rw [HATk.out]; exact put_fix ho7 HL128.out, HG.out, HL9.out.trans (below_of_grown hg7 hg0 HL9.out.size)⟩
                case measure => simp [intOf]; omega
            · have HR := Lib.hid (hnf (.inr (.inr c3)))
              have f3 : ((bs.length : Int) != 128) = true := by rw [bne_iff_ne]; omega
              clear hnf hab hfi c3
              go_wp2_with fail
              go_ret2
              exact retApply_mk HR.out rfl (World.ownsRow_nil _ _ _ _) (HBL.out.alloc hbs _)
      · obtain rfl : k = ls.length := by omega
        have HR := Lib.hid (HAG.out fun j hj => HN.out j hj hj)
        have HOE : Hid (wr.ownsRow w.heap.size 5 1 (.slice (some ⟨g, 0, none⟩) 12288 cg) 12288 ((Jr.app d ls).map eb)) := by
          have h := HO.out
          rw [List.take_length] at h
          exact h
        have HOL : Hid (12288 = (Jr.app d ls).length) := by
          have h := HOE.out.1
          simpa [Hid] using h.symm
        clear ho hbl
        go_wp2_with fail
        go_ret2
        exact retApply_mk HR.out HOL.out HOE.out HBL.out

end Go.Proofs.Ytbklmpekpcneeaa

namespace Jr
theorem full_take (l : List Wr) (k : Nat) (hk : k < l.length) (h20 : k < 20) : full (l.take (k + 1)) = full (l.take k) ++ [(l[k].1, l[k].2.take 128 ++ List.replicate (128 - l[k].2.length) 0)] := by
  unfold full
  rw [List.take_take, List.take_take, Nat.min_eq_right (by omega), Nat.min_eq_right (by omega), List.take_succ_eq_append_getElem hk, List.map_append]
  rfl
theorem full_len (l : List Wr) : (full l).length = min 20 l.length := by simp [full]
theorem full_all (l : List Wr) (k : Nat) (h : l.length ≤ k ∨ 20 ≤ k) : full (l.take k) = full l := by
  unfold full
  rw [List.take_take]
  rcases h with h | h
  · by_cases h2 : 20 ≤ k
    · rw [Nat.min_eq_left h2]
    · rw [Nat.min_eq_right (by omega), List.take_of_length_le h, List.take_of_length_le (by omega)]
  · rw [Nat.min_eq_left h]
theorem put_zero (bs : List UInt8) : put (List.replicate 128 0) 0 (bs.take 128) = bs.take 128 ++ List.replicate (128 - bs.length) 0 := by
  unfold put
  rw [List.take_zero, List.nil_append, List.drop_replicate, List.length_take, Nat.zero_add]
  congr 2
  omega
end Jr
namespace Go.Proofs.Ytbklmpekpcneeaa
open Go.RowKit

set_option maxRecDepth 100000 in
set_option maxHeartbeats 1600000 in
theorem rsame_t {v1 v2 : Value} {ls : List Jr.Wr} {w : World} (ha : Wp w v1 ls) (hb : Wp w v2 ls) : Calls Try.prog 30 #[v1, v2] w fun e w' => e = .returned (.bool true) ∧ Below w.heap.size w w' := by
  obtain ⟨a1, cap1, rfl, h11, h12, -, hop1⟩ := ha.open
  obtain ⟨a2, cap2, rfl, h21, h22, -, hop2⟩ := hb.open
  have HOP1 := Lib.hid hop1
  have HOP2 := Lib.hid hop2
  unfold maxLen at h12 h22
  clear ha hb hop1 hop2
  go_enter Try.func30, Try.ntmps30
  go_wp2_with fail
  go_loopw [5] (fun i wr => ∃ k : Nat, i = .int .i64 k ∧ k ≤ ls.length ∧ Below w.heap.size w wr) (fun i _ => ls.length - (intOf i).toNat)
  case atStart => exact ⟨0, rfl, Nat.zero_le _, Below.refl _ _⟩
  case round =>
    obtain ⟨k, rfl, hk, hbl⟩ := hrel
    by_cases hlt : k < ls.length
    · obtain ⟨b, off, a', c', rfl, hbw, ⟨x0, x1⟩, hsx⟩ := HOP1.out k hlt
      obtain ⟨b2, off2, a2', c2', rfl, hbw2, ⟨u0, u1⟩, hsu⟩ := HOP2.out k hlt
      have hbd := hbl.drew
      have y0 : wr.drew.cell? ⟨b, off + k * 2, none⟩ = some (.int .i64 ls[k].1) := by rw [hbd.cell (p := ⟨b, off + k * 2, none⟩) hbw]; exact x0
      have y1 : wr.drew.cell? ⟨b, off + k * 2 + 1, none⟩ = some (.slice a' ls[k].2.length c') := by rw [hbd.cell (p := ⟨b, off + k * 2 + 1, none⟩) hbw]; exact x1
      have z0 : wr.drew.cell? ⟨b2, off2 + k * 2, none⟩ = some (.int .i64 ls[k].1) := by rw [hbd.cell (p := ⟨b2, off2 + k * 2, none⟩) hbw2]; exact u0
      have z1 : wr.drew.cell? ⟨b2, off2 + k * 2 + 1, none⟩ = some (.slice a2' ls[k].2.length c2') := by rw [hbd.cell (p := ⟨b2, off2 + k * 2 + 1, none⟩) hbw2]; exact u1
      have hc1 := conv_sl (hsx.below hbd (Nat.le_refl _))
      have hc2 := conv_sl (hsu.below hbd (Nat.le_refl _))
      have f1 : (0 : Int) ≤ (k : Int) := by omega
      have f2 : (k : Int) < (ls.length : Int) := by omega
      have HBL := Lib.hid hbl
      clear x0 x1 u0 u1 hsx hsu hbl hbd
      generalize ls[k].1 = n at *
      generalize ls[k].2.length = m at *
      generalize ls[k].2 = bs at *
      go_wp2_with fail
      go_region
      all_goals
        go_wp2_with fail
        go_roundw
        case rel => exact ⟨k + 1, by go_num, by omega, HBL.out.drew⟩
        case measure => simp [intOf]; omega
    · have HBL := Lib.hid hbl
      clear hbl
      go_wp2_with fail
      go_ret
      exact ⟨rfl, HBL.out⟩

theorem str_cat (a b : List UInt8) : (⟨a.toArray⟩ : ByteArray) ++ ⟨b.toArray⟩ = ⟨(a ++ b).toArray⟩ := by
  apply ByteArray.ext
  simp

end Go.Proofs.Ytbklmpekpcneeaa

set_option maxRecDepth 100000
namespace Ex
theorem cl_len_step (xs : List UInt8) {x i : Nat} (h : x ≤ i) : (cl xs x (i + 1)).length = (cl xs x i).length + if getB xs (i : Nat) then 0 else 1 := by
  rw [cl_step xs h]
  cases getB xs (i : Nat) <;> simp
end Ex
namespace Go.Proofs.Ytbklmpekpcneeaa
open Go.RowKit

theorem retcc {a b c : Int} (h : a = b) : Ending.returned (.tuple #[.int .i64 a, .int .i64 c]) = .returned (.tuple #[.int .i64 b, .int .i64 c]) := by rw [h]

end Go.Proofs.Ytbklmpekpcneeaa

namespace Go.Proofs.Ytbklmpekpcneeaa
open Go.RowKit

set_option maxHeartbeats 800000 in
theorem eset_w {v : Value} {xs : List UInt8} {w : World} (i : Int) (on : Bool) (hv : Sl eb w v xs) (hm : xs.length ≤ 1000) (hi : i ≤ 9223372036854775807) :
    Calls Try.prog 56 #[v, .int .i64 i, .bool on] w fun e w' => ∃ v', e = .returned (.tuple #[v', .int .i64 (Ex.setR xs i on).2]) ∧ Av (fun b => b < w.heap.size) (fun W => Sl eb W v' (Ex.setR xs i on).1) w' ∧ Below w.heap.size w w' := by
  have HC2 := Lib.hid (bclone_w hv (by omega))
  obtain ⟨a, cap, rfl, hc, hcm, hna, hrd⟩ := hv
  clear hrd
  by_cases h0 : i < 0
  · have hs : Ex.setR xs i on = ([], 2) := by unfold Ex.setR; rw [if_neg (by omega)]
    rw [hs]
    clear HC2 hs
    go_enter Try.func56, Try.ntmps56
    go_wp2_with fail
    go_ret2
    exact ⟨_, rfl, fun _ _ => Sl.nil _ _, Below.refl _ _⟩
  · obtain ⟨j, rfl⟩ := Int.eq_ofNat_of_zero_le (by omega : 0 ≤ i)
    by_cases h1 : (j : Int) / 8 < (xs.length : Int)
    · have hs : Ex.setR xs (j : Int) on = (Ex.putB xs j on, 0) := by unfold Ex.setR; rw [if_pos (by omega), Int.toNat_natCast]
      have hj : j < 8 * xs.length := by omega
      rw [hs]
      clear hs
      go_enter Try.func56, Try.ntmps56
      go_wp2_with (go_at_call 64; refine HC2.out.mono ?_; rintro e w1 ⟨v1, rfl, ho1, hb1⟩; obtain ⟨g, c1, hv1⟩ := own_form ho1 (by omega); subst hv1)
      have hbm : Bm w1 w.heap.size g c1 xs := ho1
      have HP := eput_w w.heap.size g c1 xs (j : Int) on w1 hbm (by omega) (by omega) (by omega)
      rw [Int.toNat_natCast] at HP
      refine HP.mono ?_
      rintro e w2 ⟨rfl, hbm2, hgr⟩
      have hbl2 := hb1.trans (below_of_grown hgr (ho1.lt g rfl).1 hb1.size)
      have hS := own_fresh (enc := eb) (xs := Ex.putB xs j on) hbm2
      simp only [Ex.length_putB] at hS
      clear HP hbm hbm2 hgr HC2 ho1 hb1
      go_wp2_with fail
      go_ret2
      exact ⟨_, rfl, hS, hbl2⟩
    · have hs : Ex.setR xs (j : Int) on = ([], 2) := by unfold Ex.setR; rw [if_neg (by omega)]
      have h1' : (xs.length : Int) ≤ (j : Int) / 8 := by omega
      rw [hs]
      clear HC2 hs
      go_enter Try.func56, Try.ntmps56
      go_wp2_with fail
      go_ret2
      exact ⟨_, rfl, fun _ _ => Sl.nil _ _, Below.refl _ _⟩

set_option maxHeartbeats 800000 in
theorem erset_w {v : Value} {xs : List UInt8} {w : World} (i : Int) (on : Bool) (hv : Sl eb w v xs) (hm : xs.length ≤ 1000) (hi : i ≤ 9223372036854775807) :
    Calls Try.prog 52 #[v, .int .i64 i, .bool on] w fun e w' => ∃ v', e = .returned (.tuple #[v', .int .i64 (Ex.setR xs i on).2]) ∧ Sl eb w' v' (Ex.setR xs i on).1 ∧ Below w.heap.size w w' := by
  have HV := Lib.hid hv
  obtain ⟨a, cap, rfl, hc, hcm, hna, hrd⟩ := hv
  clear hrd
  by_cases h0 : i < 0
  · have hs : Ex.setR xs i on = ([], 2) := by unfold Ex.setR; rw [if_neg (by omega)]
    rw [hs]
    clear HV hs
    go_enter Try.func52, Try.ntmps52
    go_wp2_with fail
    go_ret2
    exact ⟨_, rfl, Sl.nil _ _, Below.refl _ _⟩
  · obtain ⟨j, rfl⟩ := Int.eq_ofNat_of_zero_le (by omega : 0 ≤ i)
    by_cases h1 : (j : Int) / 8 < (xs.length : Int)
    · have hs : Ex.setR xs (j : Int) on = (Ex.putB xs j on, 0) := by unfold Ex.setR; rw [if_pos (by omega), Int.toNat_natCast]
      have HP := Lib.hid (erput_w (j : Int) on HV.out (by omega) (by omega) (by omega))
      rw [hs]
      rw [Int.toNat_natCast] at HP
      clear hs
      go_enter Try.func52, Try.ntmps52
      go_wp2_with (go_at_call 79; refine HP.out.mono ?_; rintro e w1 ⟨v1, rfl, ho1, hb1⟩)
      go_ret2
      exact ⟨_, rfl, Sl.ofOwn ho1, hb1⟩
    · have hs : Ex.setR xs (j : Int) on = ([], 2) := by unfold Ex.setR; rw [if_neg (by omega)]
      have h1' : (xs.length : Int) ≤ (j : Int) / 8 := by omega
      rw [hs]
      clear HV hs
      go_enter Try.func52, Try.ntmps52
      go_wp2_with fail
      go_ret2
      exact ⟨_, rfl, Sl.nil _ _, Below.refl _ _⟩
end Go.Proofs.Ytbklmpekpcneeaa

namespace Go.Proofs.Ytbklmpekpcneeaa
open Go.RowKit

set_option maxHeartbeats 800000 in
theorem ercount_w {v : Value} {xs : List UInt8} {w : World} (hv : Sl eb w v xs) (hm : xs.length ≤ 1000) :
    Calls Try.prog 48 #[v] w fun e w' => e = .returned (.int .i64 (Ex.countTo xs (8 * xs.length))) ∧ w = w' := by
  obtain ⟨a, cap, rfl, hc, hcm, hna, hrd⟩ := hv
  have HG := Lib.hid (fun i (hi : (i : Int) ≤ 9223372036854775807) => erget_w a cap xs.length xs i w rfl (by omega) hrd hi)
  clear hrd
  go_enter Try.func48, Try.ntmps48
  go_wp2_with fail
  go_loop [3, 4] (fun s3 s4 => ∃ i c : Nat, s4 = .int .i64 i ∧ s3 = .int .i64 c ∧ i ≤ 8 * xs.length ∧ c ≤ i ∧ Hid (c = Ex.countTo xs i)) (fun _ s4 => 8 * xs.length - (intOf s4).toNat)
  case atStart => exact ⟨0, 0, rfl, rfl, Nat.zero_le _, Nat.zero_le _, rfl⟩
  case round =>
    obtain ⟨i, c, rfl, rfl, hiy, hci, HN⟩ := hrel
    by_cases hlt : i < 8 * xs.length
    · have HC := HG.out i (by omega)
      have HS := Lib.hid (Ex.countTo_step xs i)
      cases hb : Ex.getB xs i with
      | true =>
        rw [hb] at HC HS
        have H2 : Hid (c + 1 = Ex.countTo xs (i + 1)) := by have h := HS.out; simp at h; rw [h, HN.out]; rfl
        clear hb
        go_wp2_with (go_at_call 54; refine HC.mono ?_; rintro e w' ⟨rfl, rfl⟩)
        go_round
        case rel => exact ⟨i + 1, c + 1, by go_num, by go_num, by omega, by omega, H2⟩
        case measure => simp [intOf]; omega
      | false =>
        rw [hb] at HC HS
        have H2 : Hid (c = Ex.countTo xs (i + 1)) := by have h := HS.out; simp at h; rw [h]; exact HN.out
        clear hb
        go_wp2_with (go_at_call 54; refine HC.mono ?_; rintro e w' ⟨rfl, rfl⟩)
        go_round
        case rel => exact ⟨i + 1, c, by go_num, rfl, by omega, by omega, H2⟩
        case measure => simp [intOf]; omega
    · obtain rfl : i = 8 * xs.length := by omega
      go_wp2
      go_ret
      exact ⟨ret_int (by rw [HN.out]), rfl⟩
end Go.Proofs.Ytbklmpekpcneeaa

set_option maxRecDepth 100000
namespace Go.Proofs.Ytbklmpekpcneeaa
open Go.RowKit

set_option maxRecDepth 1000000 in
set_option maxHeartbeats 400000 in
theorem eones_w (x : UInt8) (w : World) :
    Calls Try.prog 77 #[eb x] w fun e w' => e = .returned (.int .i64 (Lib.onesCount x.toNat)) ∧ w = w' := by
  have h1 : (x.toNat : Int) ≤ 255 := by have := x.toNat_lt; omega
  have h0 : (0 : Int) ≤ (x.toNat : Int) := by omega
  have hp := Lib.pop8_int (x.toNat : Int) h0 h1
  rw [Int.toNat_natCast] at hp
  rw [← hp]
  clear hp
  unfold eb
  generalize (x.toNat : Int) = z at *
  go_enter Try.func77, Try.ntmps77
  go_wp2
  go_ret
  refine ⟨ret_int ?_, rfl⟩
  generalize Lib.pop8 z = p
  unfold wrap64
  first | rfl | omega
end Go.Proofs.Ytbklmpekpcneeaa

namespace Ex
theorem ones8 : ∀ n : Fin 256, Go.Lib.onesCount n.val = (if n.val.testBit 0 then 1 else 0) + (if n.val.testBit 1 then 1 else 0) + (if n.val.testBit 2 then 1 else 0) + (if n.val.testBit 3 then 1 else 0) + (if n.val.testBit 4 then 1 else 0) + (if n.val.testBit 5 then 1 else 0) + (if n.val.testBit 6 then 1 else 0) + (if n.val.testBit 7 then 1 else 0) := by decide +kernel

theorem countTo_byte (xs : List UInt8) {k : Nat} (hk : k < xs.length) : countTo xs (8 * (k + 1)) = countTo xs (8 * k) + Go.Lib.onesCount xs[k].toNat := by
  have hg : ∀ j, j < 8 → getB xs ((8 * k + j : Nat) : Int) = xs[k].toNat.testBit j := by
    intro j hj
    rw [getB_nat, decide_eq_true (by omega), show (8 * k + j) / 8 = k by omega, show (8 * k + j) % 8 = j by omega]
    simp [List.getD, hk, bitB]
  have ho := ones8 ⟨xs[k].toNat, xs[k].toNat_lt⟩
  simp only at ho
  rw [ho, show 8 * (k + 1) = 8 * k + 0 + 1 + 1 + 1 + 1 + 1 + 1 + 1 + 1 by omega]
  simp only [countTo_step]
  have h0 := hg 0 (by omega); have h1 := hg 1 (by omega); have h2 := hg 2 (by omega); have h3 := hg 3 (by omega)
  have h4 := hg 4 (by omega); have h5 := hg 5 (by omega); have h6 := hg 6 (by omega); have h7 := hg 7 (by omega)
  simp only [Nat.add_assoc, Nat.add_zero] at *
  rw [h0, h1, h2, h3, h4, h5, h6, h7]
end Ex
namespace Go.Proofs.Ytbklmpekpcneeaa
open Go.RowKit

set_option maxHeartbeats 300000 in
theorem ecount_w {v : Value} {xs : List UInt8} {w : World} (hv : Sl eb w v xs) (hm : xs.length ≤ 1000) :
    Calls Try.prog 46 #[v] w fun e w' => e = .returned (.int .i64 (Ex.countTo xs (8 * xs.length))) ∧ w = w' := by
  obtain ⟨a, cap, rfl, hc, hcm, hna, hrd⟩ := hv
  have H8 := Lib.hid (fun (x : UInt8) => eones_w x w)
  go_enter Try.func46, Try.ntmps46
  go_wp2_with fail
  go_loop [3, 5, 8] (fun s3 _ s8 => ∃ k c : Nat, s8 = .int .i64 k ∧ s3 = .int .i64 c ∧ k ≤ xs.length ∧ c ≤ 8 * k ∧ Hid (c = Ex.countTo xs (8 * k))) (fun _ _ s8 => xs.length - (intOf s8).toNat)
  case atStart => exact ⟨0, 0, rfl, rfl, Nat.zero_le _, Nat.zero_le _, rfl⟩
  case round =>
    obtain ⟨k, c, rfl, rfl, hk, hci, HN⟩ := hrel
    by_cases hlt : k < xs.length
    · obtain ⟨b, off, rfl, hb, hcs⟩ := hrd.form (by omega)
      have hck := hcs k hlt
      have f1 : (0 : Int) ≤ (k : Int) := by omega
      have f2 : (k : Int) < (xs.length : Int) := by omega
      have hex : ∃ (x : UInt8) (p : Nat), w.cell? ⟨b, off + k, none⟩ = some (eb x) ∧ p ≤ 8 ∧ Hid (c + p = Ex.countTo xs (8 * (k + 1))) ∧ (Calls Try.prog 77 #[eb x] w fun e w' => e = .returned (.int .i64 (p : Int)) ∧ w = w') :=
        ⟨xs[k]'hlt, Lib.onesCount (xs[k]'hlt).toNat, hck, Lib.onesCount_le8 ⟨(xs[k]'hlt).toNat, (xs[k]'hlt).toNat_lt⟩, by rw [Ex.countTo_byte xs hlt, HN.out]; rfl, H8.out _⟩
      clear hck
      obtain ⟨x, p, hck, hle, H2, HC⟩ := hex
      clear hcs H8 hrd
      unfold eb at hck HC
      go_wp2_with (go_at_call 77; go_loud (with_reducible refine HC.mono ?_); rintro e w' ⟨rfl, rfl⟩)
      go_round
      case rel => exact ⟨k + 1, c + p, by go_num, by go_num, by omega, by omega, H2⟩
      case measure => simp [intOf]; omega
    · obtain rfl : k = xs.length := by omega
      go_wp2
      go_ret
      exact ⟨ret_int (by rw [HN.out]), rfl⟩
end Go.Proofs.Ytbklmpekpcneeaa

